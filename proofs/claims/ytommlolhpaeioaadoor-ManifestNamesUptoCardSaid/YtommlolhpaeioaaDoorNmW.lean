/- ManifestNames: the walk: each chunk's name is among the names, and no other one; they rise, and don't hang on where they stand. -/
import Derived.Test.YtommlolhpaeioaaDoorNmC
import Derived.Test.YtommlolhpaeioaaDoorMfAl
import Derived.Test.YtommlolhpaeioaaDoorConcatW
import Derived.Test.YtommlolhpaeioaaDoorMf4W
import Derived.Test.YtommlolhpaeioaaDoorOpenSn
import Derived.Test.YtommlolhpaeioaaDoorWireB
import Derived.Deep.RegionHeld3
namespace Go.Proofs.YtommlolhpaeioaaDoor
open Go.RowKit Go.Maps Go.WideMaps
set_option linter.unusedVariables false
set_option linter.unusedSimpArgs false
attribute [local go_sem] ba_get ba_cut ba_add
theorem law_s : Keyed Tryd.prog 9 := string_keyed Tryd.underlying9
theorem zero_i (w : World) : (zeroValue 3).run Tryd.prog w = .ok (.int .i64 0) w := by kernel_rfl
theorem totN_sum (s : Pl.Snap) : s.c0.length + s.c1.length + s.c2.length ≤ Pl.totN s := by
  have h1 := sumLen_length (Pl.all3 s)
  unfold Pl.totN
  unfold Pl.all3 at h1 ⊢
  simp only [List.length_append] at h1
  omega
theorem strs_one (l : List Tx) : ∀ u ∈ strs l, u.oneCell' = true := by intro u hu; unfold strs at hu; obtain ⟨b, -, rfl⟩ := List.mem_map.1 hu; rfl
theorem strs_app (a b : List Tx) : strs a ++ strs b = strs (a ++ b) := by unfold strs; rw [List.map_append]
theorem lt_zero_wf (n : Int) (h0 : 0 ≤ n) (h1 : n ≤ 9223372036854775807) : (Lit.int .i64 n).wf = true := WalkArith.wf_i64 (by omega)
/-- The three slices' cells of a block. -/
structure Sn3 (w : World) (B : Nat) (X : Cx) : Prop where
  c6 : w.cell? ⟨B, 6, none⟩ = some (.slice X.A0 X.n0 X.k0)
  c7 : w.cell? ⟨B, 7, none⟩ = some (.slice X.A1 X.n1 X.k1)
  c8 : w.cell? ⟨B, 8, none⟩ = some (.slice X.A2 X.n2 X.k2)
theorem Sn3.below {w w' : World} {B B' : Nat} {X : Cx} (h : Sn3 w B X) (hB : B < B') (hb : Below B' w w') : Sn3 w' B X :=
  ⟨(hb.cell (p := ⟨B, 6, none⟩) hB).trans h.c6, (hb.cell (p := ⟨B, 7, none⟩) hB).trans h.c7, (hb.cell (p := ⟨B, 8, none⟩) hB).trans h.c8⟩
theorem Sn3.set {w : World} {B H : Nat} {X : Cx} (h : Sn3 w B X) (hne : B ≠ H) (i : Nat) (v : Value) : Sn3 (w.setCell ⟨H, i, none⟩ v) B X :=
  ⟨(World.cell?_setCell_far _ _ _ _ (by show _ ≠ _; simpa using hne.symm)).trans h.c6, (World.cell?_setCell_far _ _ _ _ (by show _ ≠ _; simpa using hne.symm)).trans h.c7, (World.cell?_setCell_far _ _ _ _ (by show _ ≠ _; simpa using hne.symm)).trans h.c8⟩
theorem own_put {w : World} {base : Nat} {e : TypeId} {k n B : Nat} {v : Value} {xs : List Value} (h : w.ownsRow base e k v n xs) (hB : B < base) (i : Nat) (u : Value) : (w.setCell ⟨B, i, none⟩ u).ownsRow base e k v n xs :=
  h.kept (row := some B) ⟨rfl, rfl, rfl, by simp [World.setCell], fun k _ hk => Below.heap_setCell _ _ _ _ (fun e => hk (by simp [e]))⟩ (.inr fun he => by have := (h.lt B he).1; omega)
theorem set_three (s : Pl.Snap) (X : Cx) (A : Option Addr) (n c : Nat) : (((snL s X).set 6 (.slice X.A2 X.n2 X.k2)).set 7 (.slice A n c)).set 8 (.slice none 0 0) = snL (turn s) ⟨X.A2, X.n2, X.k2, A, n, c, none, 0, 0⟩ := rfl
set_option maxRecDepth 100000 in
set_option maxHeartbeats 8000000 in
theorem manifestNames_walk (s : Pl.Snap) (X : Cx) (w : World) (hok : SnOk w s X) (hfit : SnFit s) (hnum : SnNum s) (hbulk : Pl.totN s ≤ 1048576) (hv : VTab w) : Calls Tryd.prog 6 #[.agg (snL s X).toArray] w (RetB (fun v _ => v = .bool true) w) := by
  have hts := totN_sum s
  have l0 : s.c0.length = X.n0 := by have := (show Rd w 1 X.A0 X.n0 (strs s.c0) from hok.s0.1).len1; rwa [strs_len] at this
  have l1 : s.c1.length = X.n1 := by have := (show Rd w 1 X.A1 X.n1 (strs s.c1) from hok.s1.1).len1; rwa [strs_len] at this
  have hn01 : X.n0 ≤ 1048576 ∧ X.n1 ≤ 1048576 := by omega
  have hg := fun W h => great41_any s X W h hfit
  obtain ⟨G, hG⟩ : ∃ G : Int, (if 10000 < Pl.greatN s then (1 : Int) else 0) = G := ⟨_, rfl⟩
  have hG01 : G = 1 ∨ G = 0 := by rw [← hG]; split <;> simp
  simp only [hG] at hg
  have hn := fun W h => mnames_any s X W h hfit (by omega)
  have hfit2 : SnFit (turn s) := ⟨hfit.m, hfit.c2, fun t ht => (by rcases List.mem_append.1 ht with h | h; exact hfit.c0 t h; exact hfit.c1 t h), fun t ht => (by cases ht), hfit.l2, (by show (s.c0 ++ s.c1).length ≤ _; rw [List.length_append]; omega), (by show ([] : List Tx).length ≤ _; simp)⟩
  have hn2 := fun Y W h => mnames_any (turn s) Y W h hfit2 (by show s.c2.length + (s.c0 ++ s.c1).length + 0 ≤ _; rw [List.length_append]; omega)
  rw [Pl.namesP_perm (turn_mem s)] at hn2
  have hrise := Pl.namesP_rise (Pl.all3 s)
  have hmem := Pl.namesP_mem (Pl.all3 s)
  have hal : (Pl.all3 s).length ≤ 1048576 := by simp only [Pl.all3, List.length_append]; omega
  have hfx : ∀ x ∈ Pl.all3 s, x.length ≤ 140737488355328 := fun x hx => by
    simp only [Pl.all3, List.mem_append] at hx
    rcases hx with (h | h) | h
    · exact hfit.c0 x h
    · exact hfit.c1 x h
    · exact hfit.c2 x h
  obtain ⟨N, hN⟩ : ∃ N, Pl.namesP (Pl.all3 s) = N := ⟨_, rfl⟩
  have hNl : N.length ≤ 1048576 := by
    have h1 := namesR_len (Pl.all3 s)
    rw [← Pl.namesP_R, hN] at h1
    omega
  rw [hN] at hn hn2 hrise hmem
  have HN := Lib.hid (And.intro hrise (And.intro hmem (And.intro hal hfx)))
  have HH := Lib.hid (And.intro hg (And.intro hn hn2))
  have HI := Lib.hid (And.intro (info_sn hok) hok.sum)
  have HOK := Lib.hid hok
  clear hg hn hn2 hrise hmem hal hfx hG hN hfit hfit2 hnum hbulk hts l0 l1
  obtain ⟨LS, hLS⟩ : ∃ L, snL s X = L := ⟨_, rfl⟩
  rw [hLS]
  have HLS := Lib.hid hLS
  go_enter Tryd.func6, Tryd.ntmps6
  go_upto_region 1 with (fail)
  generalize hV : w.alloc _ = V
  have hx : SnAt V w.heap.size 0 s X := by rw [← hV, ← hLS]; exact snAt_new w s X
  have hbV : Below w.heap.size w V := by rw [← hV]; exact (Below.refl _ _).alloc (Nat.le_refl _) _
  have hBV : w.heap.size < V.heap.size := by rw [← hV]; simp
  have hvV := hv.keep hbV (Nat.le_refl _)
  have hinf := HI.out.1
  rw [hLS] at hinf
  clear hV hLS hok hv
  have HX := Lib.hid hx
  have HK := Lib.hid (show ∀ W, Below V.heap.size V W → W.rangeAt w.heap.size 0 LS from fun W hb => by
    have h1 := snAt_range (HX.out.below hBV hb)
    rwa [HLS.out] at h1)
  have HKB := Lib.hid (show ∀ W, Below V.heap.size V W → Below w.heap.size w W from fun W hb => hbV.trans (hb.mono hbV.size))
  have HBV := Lib.hid hBV
  clear hx hbV hBV
  go_wp2_with fail
  (with_reducible refine (alive41_any _ hvV).mono ?_)
  rintro e w1 ⟨v, rfl, rfl, hb1⟩
  have hr1 := HK.out _ hb1
  clear hvV
  go_wp2_with (with_reducible refine wpList_load_mid rfl 28 _ rfl w.heap.size 0 rfl LS _ hr1 Tryd.underlying28 rfl hinf ?_)
  rw [← HLS.out]
  (with_reducible refine (HH.out.1 _ (HOK.out.below (HKB.out _ hb1))).mono ?_)
  rintro e w2 ⟨v, rfl, rfl, hb2⟩
  rw [HLS.out]
  replace hb2 := hb1.trans (hb2.mono hb1.size)
  clear hb1 hr1
  have hr1 := HK.out _ hb2
  rcases hG01 with rfl | rfl
  · go_wp2_with fail
    go_ret
    exact ⟨_, rfl, rfl, HKB.out _ hb2⟩
  go_wp2_with (with_reducible refine wpList_load_mid rfl 28 _ rfl w.heap.size 0 rfl LS _ hr1 Tryd.underlying28 rfl hinf ?_)
  rw [← HLS.out]
  (with_reducible refine (HH.out.2.1 _ (HOK.out.below (HKB.out _ hb2))).mono ?_)
  rintro e w3 ⟨v, rfl, ⟨A, c, rfl, hrN⟩, hb3⟩
  rw [HLS.out]
  replace hb3 := hb2.trans (hb3.mono hb2.size)
  clear hb2 hr1
  have hr1 := HK.out _ hb3
  have hls : LS.toArray.size = 41 := by rw [List.size_toArray, ← HLS.out]; simp [snL, byC_len, HI.out.2]
  have hlo : LS.toArray.all (·.oneCell') = true := all_oneCell_toArray (by rw [← HLS.out]; exact snL_one _ _)
  have HLL := Lib.hid (And.intro hls (And.intro hlo (show (Tryd.prog.info? 28).map (·.size) = some LS.toArray.size by rw [hls]; exact info_snap))); clear hls hlo
  go_upto_region 7 with (first
    | (with_reducible refine wpList_load_mid rfl 28 _ rfl w.heap.size 0 rfl LS _ hr1 Tryd.underlying28 rfl hinf ?_)
    | (with_reducible refine wpList_store_mid rfl 28 _ _ rfl w3.heap.size 0 LS.toArray rfl rfl (there_row (heap_alloc_new _ _) (by rw [HLL.out.1]; exact Nat.le_of_ble_eq_true rfl)) HLL.out.2.2 HLL.out.2.1 ?_))
  generalize hW : World.setCells _ _ _ _ = w4
  have hb4 : Below w3.heap.size w3 w4 := by rw [← hW]; exact ((Below.refl _ _).alloc (Nat.le_refl _) _).trans (Lib.below_setCells_w (Nat.le_refl _) _ _ _)
  have hz4 : w4.heap[w3.heap.size]? = some (.cells LS.toArray 28 (0, 0)) := by rw [← hW]; exact heap_setCells_all (heap_alloc_new _ _) (by have := HLL.out.1; simpa using this)
  have hB3 : w.heap.size < w3.heap.size := Nat.lt_of_lt_of_le HBV.out hb3.size
  clear hW hr1
  obtain ⟨H, hH⟩ : ∃ H, w3.heap.size = H := ⟨_, rfl⟩
  have hrN4 := hrN.below hb4
  rw [hH] at hz4 hb4 hB3 ⊢
  have HW3 := Lib.hid (And.intro hb3 (And.intro hrN hH))
  clear hb3 hrN hH
  have hHw : H < w4.heap.size := blk_lt hz4
  have hd4 : Below w.heap.size w w4 := (HKB.out _ HW3.out.1).trans (hb4.mono (Nat.le_of_lt hB3))
  have hS4 : Sn3 w4 w.heap.size X := by
    have h := HX.out.below HBV.out (HW3.out.1.trans (hb4.mono (by rw [← HW3.out.2.2]; exact HW3.out.1.size)))
    have c6 := h.c6; have c7 := h.c7; have c8 := h.c8
    rw [Nat.zero_add] at c6 c7 c8
    exact ⟨c6, c7, c8⟩
  have HST := Lib.hid info_str
  have hBw : w.heap.size < w4.heap.size := by omega
  refine wp_region_held_drew (S := (fun w' => Sn3 w' w.heap.size X)) (by kernel_rfl) (by exact hS4.below hBw (Below.refl _ _).drew) (fun hHeld => ?_)
  refine wpAnyH_take (i := 0) (v := ?_) rfl (by kernel_rfl) (by kernel_rfl) (by kernel_rfl) (fun _ _ _ h => h) (Or.inl ⟨by kernel_rfl, ?_⟩) hHeld ?_
  rotate_left
  · (intro w' hSw; obtain ⟨hS0, hS1, hS2⟩ := hSw; go_simp; try with_reducible rfl)
  simp only [Act.put, List.setIfInBounds_toArray, List.set_cons_zero, List.set_cons_succ, List.getElem_toArray, List.getElem_cons_succ, List.getElem_cons_zero]
  refine wpAnyH_take (i := 1) (v := ?_) rfl (by kernel_rfl) (by kernel_rfl) (by kernel_rfl) (fun _ _ _ h => h) (Or.inl ⟨by kernel_rfl, ?_⟩) hHeld ?_
  rotate_left
  · (intro w' hSw; obtain ⟨hS0, hS1, hS2⟩ := hSw; go_simp; try with_reducible rfl)
  simp only [Act.put, List.setIfInBounds_toArray, List.set_cons_zero, List.set_cons_succ, List.getElem_toArray, List.getElem_cons_succ, List.getElem_cons_zero]
  refine wpAnyH_take (i := 2) (v := ?_) rfl (by kernel_rfl) (by kernel_rfl) (by kernel_rfl) (fun _ _ _ h => h) (Or.inl ⟨by kernel_rfl, ?_⟩) hHeld ?_
  rotate_left
  · (intro w' hSw; obtain ⟨hS0, hS1, hS2⟩ := hSw; go_simp; try with_reducible rfl)
  simp only [Act.put, List.setIfInBounds_toArray, List.set_cons_zero, List.set_cons_succ, List.getElem_toArray, List.getElem_cons_succ, List.getElem_cons_zero]
  refine wpAnyH_take (i := 4) (v := ?_) rfl (by kernel_rfl) (by kernel_rfl) (by kernel_rfl) (fun _ _ _ h => h) (Or.inl ⟨by kernel_rfl, ?_⟩) hHeld ?_
  rotate_left
  · (intro w' hSw; obtain ⟨hS0, hS1, hS2⟩ := hSw; go_simp; try with_reducible rfl)
  simp only [Act.put, List.setIfInBounds_toArray, List.set_cons_zero, List.set_cons_succ, List.getElem_toArray, List.getElem_cons_succ, List.getElem_cons_zero]
  refine wpAnyH_take (i := 5) (v := ?_) rfl (by kernel_rfl) (by kernel_rfl) (by kernel_rfl) (fun _ _ _ h => h) (Or.inl ⟨by kernel_rfl, ?_⟩) hHeld ?_
  rotate_left
  · (intro w' hSw; obtain ⟨hS0, hS1, hS2⟩ := hSw; go_simp; try with_reducible rfl)
  simp only [Act.put, List.setIfInBounds_toArray, List.set_cons_zero, List.set_cons_succ, List.getElem_toArray, List.getElem_cons_succ, List.getElem_cons_zero]
  refine wpAnyH_take (i := 6) (v := ?_) rfl (by kernel_rfl) (by kernel_rfl) (by kernel_rfl) (fun _ _ _ h => h) (Or.inl ⟨by kernel_rfl, ?_⟩) hHeld ?_
  rotate_left
  · (intro w' hSw; obtain ⟨hS0, hS1, hS2⟩ := hSw; go_simp; try with_reducible rfl)
  simp only [Act.put, List.setIfInBounds_toArray, List.set_cons_zero, List.set_cons_succ, List.getElem_toArray, List.getElem_cons_succ, List.getElem_cons_zero]
  refine wpAnyH_take (i := 8) (v := ?_) rfl (by kernel_rfl) (by kernel_rfl) (by kernel_rfl) (fun _ _ _ h => h) (Or.inl ⟨by kernel_rfl, ?_⟩) hHeld ?_
  rotate_left
  · (intro w' hSw; obtain ⟨hS0, hS1, hS2⟩ := hSw; go_simp; try with_reducible rfl)
  simp only [Act.put, List.setIfInBounds_toArray, List.set_cons_zero, List.set_cons_succ, List.getElem_toArray, List.getElem_cons_succ, List.getElem_cons_zero]
  refine wpAnyH_take (i := 9) (v := ?_) rfl (by kernel_rfl) (by kernel_rfl) (by kernel_rfl) (fun _ _ _ h => h) (Or.inl ⟨by kernel_rfl, ?_⟩) hHeld ?_
  rotate_left
  · (intro w' hSw; obtain ⟨hS0, hS1, hS2⟩ := hSw; go_simp; try with_reducible rfl)
  simp only [Act.put, List.setIfInBounds_toArray, List.set_cons_zero, List.set_cons_succ, List.getElem_toArray, List.getElem_cons_succ, List.getElem_cons_zero]
  refine wpAnyH_take (i := 10) (v := ?_) rfl (by kernel_rfl) (by kernel_rfl) (by kernel_rfl) (fun _ _ _ h => h) (Or.inl ⟨by kernel_rfl, ?_⟩) hHeld ?_
  rotate_left
  · (intro w' hSw; obtain ⟨hS0, hS1, hS2⟩ := hSw; go_simp; try with_reducible rfl)
  simp only [Act.put, List.setIfInBounds_toArray, List.set_cons_zero, List.set_cons_succ, List.getElem_toArray, List.getElem_cons_succ, List.getElem_cons_zero]
  refine wpAnyH_take (i := 12) (v := ?_) rfl (by kernel_rfl) (by kernel_rfl) (by kernel_rfl) (fun _ _ _ h => h) (Or.inl ⟨by kernel_rfl, ?_⟩) hHeld ?_
  rotate_left
  · (intro w' hSw; obtain ⟨hS0, hS1, hS2⟩ := hSw; go_simp; try with_reducible rfl)
  simp only [Act.put, List.setIfInBounds_toArray, List.set_cons_zero, List.set_cons_succ, List.getElem_toArray, List.getElem_cons_succ, List.getElem_cons_zero]
  refine wpAnyH_take (i := 13) (v := ?_) rfl (by kernel_rfl) (by kernel_rfl) (by kernel_rfl) (fun _ _ _ h => h) (Or.inl ⟨by kernel_rfl, ?_⟩) hHeld ?_
  rotate_left
  · (intro w' hSw; obtain ⟨hS0, hS1, hS2⟩ := hSw; go_simp; try with_reducible rfl)
  simp only [Act.put, List.setIfInBounds_toArray, List.set_cons_zero, List.set_cons_succ, List.getElem_toArray, List.getElem_cons_succ, List.getElem_cons_zero]
  refine wpAnyH_take (i := 15) (v := ?_) rfl (by kernel_rfl) (by kernel_rfl) (by kernel_rfl) (fun _ _ _ h => h) (Or.inl ⟨by kernel_rfl, ?_⟩) hHeld ?_
  rotate_left
  · (intro w' hSw; obtain ⟨hS0, hS1, hS2⟩ := hSw; go_simp; try with_reducible rfl)
  simp only [Act.put, List.setIfInBounds_toArray, List.set_cons_zero, List.set_cons_succ, List.getElem_toArray, List.getElem_cons_succ, List.getElem_cons_zero]
  refine wpAnyH_take (i := 18) (v := ?_) rfl (by kernel_rfl) (by kernel_rfl) (by kernel_rfl) (fun _ _ _ h => h) (Or.inl ⟨by kernel_rfl, ?_⟩) hHeld ?_
  rotate_left
  · (intro w' hSw; obtain ⟨hS0, hS1, hS2⟩ := hSw; go_simp; try with_reducible rfl)
  simp only [Act.put, List.setIfInBounds_toArray, List.set_cons_zero, List.set_cons_succ, List.getElem_toArray, List.getElem_cons_succ, List.getElem_cons_zero]
  have hS0 : Sn3 w4.drew w.heap.size X := hS4.below hBw (Below.refl _ _).drew
  have hz0 : w4.drew.heap[H]? = some (.cells LS.toArray 28 (0, 0)) := hz4
  have hd0 : Below H w3 w4.drew := hb4.drew
  have hs0 : H < w4.drew.heap.size := hHw
  have he0 : Below w.heap.size w w4.drew := hd4.drew
  generalize hW0 : w4.drew = W0
  rw [hW0] at hS0 hz0 hd0 hs0 he0
  clear hW0 hS4 hz4 hb4 hHw hd4 hBw
  obtain ⟨BB, hBB⟩ : ∃ b, W0.heap.size = b := ⟨_, rfl⟩
  have hown0 := World.ownsRow_made (base := BB) (e := 9) (size := 1) W0 #[] 0 (by omega) (by decide) (by simp)
  refine wpAnyH_ready (rs := [3]) (by kernel_rfl) (by simp) (AllReadyH.cons rfl (fun K hK => ?_) AllReadyH.nil)
  go_simp
  generalize hA : World.alloc _ _ = W1
  rw [hA, hBB] at hown0
  have hb1 : Below BB W0 W1 := by rw [← hA, ← hBB]; exact (Below.refl _ _).alloc (Nat.le_refl _) _
  have hs1 : BB ≤ W1.heap.size := by rw [← hA]; simp; omega
  have hS1 := hS0.below (by omega) hb1
  have he1 := he0.trans (hb1.mono (by omega))
  clear hA
  refine hK.out _ _ (by exact hS1) (fun hHeld => ?_)
  clear hK K
  (try simp only [Act.put, List.setIfInBounds_toArray, List.set_cons_zero, List.set_cons_succ, List.getElem_toArray, List.getElem_cons_succ, List.getElem_cons_zero])
  refine wpAnyH_ready (rs := [7]) (by kernel_rfl) (by simp) (AllReadyH.cons rfl (fun K hK => ?_) AllReadyH.nil)
  refine step_many rfl (.tmp 25) (.tmp 28) 23 rfl BB 9 (.string ⟨#[]⟩) 16 Tryd.underlying23 HST.out rfl _ _ 0 [] X.A0 X.n0 X.k0 (strs s.c0) (by rfl) hown0 (by rfl) (show Rd _ 1 X.A0 X.n0 (strs s.c0) from (HOK.out.below he1).s0.1) (HOK.out.s0.2.2.2) (strs_one _) (by omega) (by omega) hs1 ?_
  intro v1 W2 hown1 hb2
  have hS2 := hS1.below (by omega) hb2
  have he2 := he1.trans (hb2.mono (by omega))
  have hs2 := Nat.le_trans hs1 hb2.size
  refine hK.out _ _ (by exact hS2) (fun hHeld => ?_)
  clear hK K
  (try simp only [Act.put, List.setIfInBounds_toArray, List.set_cons_zero, List.set_cons_succ, List.getElem_toArray, List.getElem_cons_succ, List.getElem_cons_zero])
  refine wpAnyH_ready (rs := [11]) (by kernel_rfl) (by simp) (AllReadyH.cons rfl (fun K hK => ?_) AllReadyH.nil)
  refine step_many rfl (.tmp 29) (.tmp 32) 23 rfl BB 9 (.string ⟨#[]⟩) 16 Tryd.underlying23 HST.out rfl _ _ _ _ X.A1 X.n1 X.k1 (strs s.c1) (by rfl) hown1 (by rfl) (show Rd _ 1 X.A1 X.n1 (strs s.c1) from (HOK.out.below he2).s1.1) (HOK.out.s1.2.2.2) (strs_one _) (by omega) (by omega) hs2 ?_
  intro v2 W3 hown2 hb3
  have hS3 := hS2.below (by omega) hb3
  have he3 := he2.trans (hb3.mono (by omega))
  have hz3 := ((hb1.trans hb2).trans hb3).block H (by omega)
  rw [hz0] at hz3
  have hd3 := hd0.trans (((hb1.trans hb2).trans hb3).mono (by omega))
  obtain ⟨A2, c2, rfl⟩ := own_form' hown2
  obtain ⟨nn, hnn⟩ : ∃ n, 0 + X.n0 + X.n1 = n := ⟨_, rfl⟩
  rw [hnn] at hown2 ⊢
  rw [List.nil_append, strs_app] at hown2
  refine hK.out _ _ (by exact hS3) (fun hHeld => ?_)
  clear hK K
  (try simp only [Act.put, List.setIfInBounds_toArray, List.set_cons_zero, List.set_cons_succ, List.getElem_toArray, List.getElem_cons_succ, List.getElem_cons_zero])
  (try dsimp only [List.getElem_toArray, List.getElem_cons_succ, List.getElem_cons_zero])
  have hcell : ∀ (W : World) (L : List Value), L.length = 41 → W.heap[H]? = some (.cells L.toArray 28 (0, 0)) → ∀ i, i < 41 → ∃ v, W.cell? ⟨H, i, none⟩ = some v := fun W L hl hz i hi => by
    rw [cell_row W H i _ _ hz, List.getElem?_toArray]
    exact ⟨_, List.getElem?_eq_getElem (by omega)⟩
  have hlen : LS.length = 41 := by have := HLL.out.1; simpa using this
  obtain ⟨y6, hc6⟩ := hcell W3 LS hlen hz3 6 (by omega)
  have hf6 : W3.frozen? ⟨H, 6, none⟩ = false := frozen_of W3 H 6 _ _ hz3
  have hz5 := set_at W3 H 6 _ (.slice X.A2 X.n2 X.k2) _ hz3
  rw [List.setIfInBounds_toArray] at hz5
  have hS5 := hS3.set (H := H) (by omega) 6 (.slice X.A2 X.n2 X.k2)
  have hd5 := hd3.setCell (p := ⟨H, 6, none⟩) (Nat.le_refl _) (.slice X.A2 X.n2 X.k2)
  have he5 := he3.setCell (p := ⟨H, 6, none⟩) (by simp; omega) (.slice X.A2 X.n2 X.k2)
  have hown5 := own_put (B := H) hown2 (by omega) 6 (.slice X.A2 X.n2 X.k2)
  refine wpAnyH_ready (rs := [14]) (by kernel_rfl) (by simp) (AllReadyH.cons rfl (fun K hK => ?_) AllReadyH.nil)
  go_simp
  generalize hE : World.setCell W3 _ _ = W5
  rw [hE] at hz5 hS5 hd5 he5 hown5
  clear hE hc6 hf6
  refine hK.out _ _ (by exact hS5) (fun hHeld => ?_)
  clear hK K
  (try simp only [Act.put, List.setIfInBounds_toArray, List.set_cons_zero, List.set_cons_succ, List.getElem_toArray, List.getElem_cons_succ, List.getElem_cons_zero])
  refine wpAnyH_take (i := 16) (v := ?_) rfl (by kernel_rfl) (by kernel_rfl) (by kernel_rfl) (fun _ _ _ h => h) (Or.inl ⟨by kernel_rfl, ?_⟩) hHeld ?_
  rotate_left
  · (intro w' hSw; obtain ⟨hS0, hS1, hS2⟩ := hSw; go_simp; try with_reducible rfl)
  simp only [Act.put, List.setIfInBounds_toArray, List.set_cons_zero, List.set_cons_succ, List.getElem_toArray, List.getElem_cons_succ, List.getElem_cons_zero]
  obtain ⟨y7, hc7⟩ := hcell W5 _ (by simp [hlen]) hz5 7 (by omega)
  have hf7 : W5.frozen? ⟨H, 7, none⟩ = false := frozen_of W5 H 7 _ _ hz5
  have hz6 := set_at W5 H 7 _ (.slice A2 nn c2) _ hz5
  rw [List.setIfInBounds_toArray] at hz6
  have hS6 := hS5.set (H := H) (by omega) 7 (.slice A2 nn c2)
  have hd6 := hd5.setCell (p := ⟨H, 7, none⟩) (Nat.le_refl _) (.slice A2 nn c2)
  have he6 := he5.setCell (p := ⟨H, 7, none⟩) (by simp; omega) (.slice A2 nn c2)
  have hown6 := own_put (B := H) hown5 (by omega) 7 (.slice A2 nn c2)
  refine wpAnyH_ready (rs := [17]) (by kernel_rfl) (by simp) (AllReadyH.cons rfl (fun K hK => ?_) AllReadyH.nil)
  go_simp
  generalize hE : World.setCell W5 _ _ = W6
  rw [hE] at hz6 hS6 hd6 he6 hown6
  clear hE hc7 hf7
  refine hK.out _ _ (by exact hS6) (fun hHeld => ?_)
  clear hK K
  (try simp only [Act.put, List.setIfInBounds_toArray, List.set_cons_zero, List.set_cons_succ, List.getElem_toArray, List.getElem_cons_succ, List.getElem_cons_zero])
  refine wpAnyH_take (i := 19) (v := ?_) rfl (by kernel_rfl) (by kernel_rfl) (by kernel_rfl) (fun _ _ _ h => h) (Or.inl ⟨by kernel_rfl, ?_⟩) hHeld ?_
  rotate_left
  · (intro w' hSw; obtain ⟨hS0, hS1, hS2⟩ := hSw; go_simp; try with_reducible rfl)
  simp only [Act.put, List.setIfInBounds_toArray, List.set_cons_zero, List.set_cons_succ, List.getElem_toArray, List.getElem_cons_succ, List.getElem_cons_zero]
  obtain ⟨y8, hc8⟩ := hcell W6 _ (by simp [hlen]) hz6 8 (by omega)
  have hf8 : W6.frozen? ⟨H, 8, none⟩ = false := frozen_of W6 H 8 _ _ hz6
  have hz7 := set_at W6 H 8 _ (.slice none 0 0) _ hz6
  rw [List.setIfInBounds_toArray] at hz7
  have hS7 := hS6.set (H := H) (by omega) 8 (.slice none 0 0)
  have hd7 := hd6.setCell (p := ⟨H, 8, none⟩) (Nat.le_refl _) (.slice none 0 0)
  have he7 := he6.setCell (p := ⟨H, 8, none⟩) (by simp; omega) (.slice none 0 0)
  have hown7 := own_put (B := H) hown6 (by omega) 8 (.slice none 0 0)
  refine wpAnyH_ready (rs := [20]) (by kernel_rfl) (by simp) (AllReadyH.cons rfl (fun K hK => ?_) AllReadyH.nil)
  go_simp
  generalize hE : World.setCell W6 _ _ = W7
  rw [hE] at hz7 hS7 hd7 he7 hown7
  clear hE hc8 hf8
  refine hK.out _ _ (by exact hS7) (fun hHeld => ?_)
  clear hK K
  (try simp only [Act.put, List.setIfInBounds_toArray, List.set_cons_zero, List.set_cons_succ, List.getElem_toArray, List.getElem_cons_succ, List.getElem_cons_zero])
  refine wpAnyH_done (by kernel_rfl) ?_ _
  rw [← HLS.out, set_three] at hz7
  have hokT : SnOk W7 (turn s) ⟨X.A2, X.n2, X.k2, A2, nn, c2, none, 0, 0⟩ := ⟨(HOK.out.below he7).s2, by
    have h1 : Rd W7 1 A2 nn (strs (s.c0 ++ s.c1)) := Rd.own hown7
    refine ⟨h1, ?_⟩
    rcases hown7.2 with ⟨e1, e2⟩ | ⟨g, cap, cur, e1, _, _, h3, h4, _⟩
    · cases e1; exact ⟨Nat.le_refl _, Nat.zero_le _, fun _ => rfl⟩
    · cases e1; exact ⟨h3, by simp only [maxLen] at h4; omega, fun h => by cases h⟩, sl_nil W7, HI.out.2⟩
  have hN7 : Rd W7 1 A N.length (strs N) := HW3.out.2.1.below (by rw [HW3.out.2.2]; exact hd7)
  have HE := Lib.hid (And.intro hz7 (And.intro hokT (And.intro hN7 (And.intro he7 hS7))))
  clear hz7 hokT hN7 he7 hS7 hown7 hd7 hd6 he6 hS6 hz6 hown6 hd5 he5 hS5 hz5 hown5 hcell hlen hd3 he3 hS3 hz3 hown2 hb3 hs2 he2 hS2 hb2 hown1 hs1 he1 hS1 hb1 hown0 hBB hd0 hs0 he0 hS0 hz0 hrN4
  have hmm := @run_makeMap Tryd.prog
  go_wp2_with fail
  generalize hM : World.alloc _ _ = WM
  have hmap0 : WM.ownsMap Tryd.prog 9 (plainElem (H := Unit) Tryd.prog 3) W7.heap.size 0 (.map []) := by rw [← hM]; exact World.ownsMap_made _ _ _ _
  have hbM : Below W7.heap.size W7 WM := by rw [← hM]; exact (Below.refl _ _).alloc (Nat.le_refl _) _
  clear hM hmm
  obtain ⟨M, hMM⟩ : ∃ m, W7.heap.size = m := ⟨_, rfl⟩
  rw [hMM] at hmap0 hbM ⊢
  have HM := Lib.hid (And.intro hmap0 (And.intro hbM hMM)); clear hmap0 hbM hMM
  go_loopw [43] (fun i wr => ∃ (k : Nat) (D : DataW Unit), k ≤ N.length ∧ i = .int .i64 (k : Nat) ∧ wr.ownsMap Tryd.prog 9 (plainElem (H := Unit) Tryd.prog 3) M k D ∧ Below M W7 wr ∧ Hid (Cnt D N (f1 N k))) (fun i _ => N.length - (intOf i).toNat)
  case atStart => exact ⟨0, .map [], by omega, rfl, HM.out.1, HM.out.2.1, by show Cnt _ _ _; rw [f1_zero]; exact cnt_nil N⟩
  case round =>
    obtain ⟨k, D, hk, rfl, hown, hbk, HD⟩ := hrel
    have hM7 : W7.heap.size = M := HM.out.2.2
    by_cases hkN : k < N.length
    · obtain ⟨b, off, rfl, hbb, hc1⟩ := HE.out.2.2.1.at1 hkN
      rw [strs_get N k hkN] at hc1
      have hc2 : wr.cell? ⟨b, off + k, none⟩ = some (.string ⟨N[k].toArray⟩) := (hbk.cell (p := ⟨b, off + k, none⟩) (by rw [← hM7]; exact hbb)).trans hc1
      obtain ⟨x, hx⟩ : ∃ x, N[k] = x := ⟨_, rfl⟩
      have hxN : x ∈ N := by rw [← hx]; exact List.getElem_mem hkN
      have hxl := HN.out.2.2.2 x ((HN.out.2.1 x).1 hxN)
      have hst := f1_step HN.out.1 hkN
      rw [hx] at hc2 hst
      have hkey := key_tx (P := Tryd.prog) Tryd.underlying9 hxl
      have HXX := Lib.hid (And.intro hx (And.intro hxN (And.intro hst hbb))); clear hx hxN hst hc1 hbb hxl
      have hj1 : (k : Int) < (N.length : Int) := by omega
      clear hM7
      go_upto_region 13 with (first
        | (at_lookup; refine wpList_lookup_own_int _ rfl _ _ 47 rfl 9 3 .i64 law_s Tryd.underlying47 Tryd.underlying3 (zero_i _) M k _ rfl hown _ _ rfl hkey ?_; intro c hat hwc; obtain rfl : c = 0 := (by rw [HD.out.at hat]; exact HXX.out.2.2.1.2))
        | (at_mapUpdate; refine wpList_mapUpdate_own _ rfl _ _ _ 47 rfl 9 3 law_s Tryd.underlying47 _ M k _ rfl hown (by unfold maxLen; omega) _ _ _ rfl rfl hkey _ [] (plainElem_int Tryd.underlying3 (lt_zero_wf _ (by omega) (by omega))) ?_; intro v1 hown1 hgrow1))
      have hD1 := HD.out.put HXX.out.2.1
      rw [HXX.out.2.2.1.1, HXX.out.2.2.1.2] at hD1
      have hb1 : Below M W7 v1 := hbk.grown hgrow1 (by rw [← HM.out.2.2]; exact hbk.size) (fun j hj => by cases hj; exact Nat.le_refl _)
      have HD1 := Lib.hid (And.intro hD1 (And.intro hb1 hown1)); clear hD1 hb1 hown1 hgrow1 hat hwc hown hbk hc2 hkey
      by_cases hk0 : 0 < k
      · obtain ⟨p, rfl⟩ : ∃ p, k = p + 1 := ⟨k - 1, by omega⟩
        have hd0 : decide ((0 : Int) < ((p + 1 : Nat) : Int)) = true := decide_eq_true (by omega)
        obtain ⟨b', off', he, hbb', hcp⟩ := HE.out.2.2.1.at1 (show p < N.length by omega)
        injection he with he; injection he with he1 he2; subst he1 he2
        rw [strs_get N p (by omega)] at hcp
        have hcq : v1.cell? ⟨b, off + p, none⟩ = some (.string ⟨N[p].toArray⟩) := (HD1.out.2.1.cell (p := ⟨b, off + p, none⟩) (by rw [← HM.out.2.2]; exact hbb')).trans hcp
        have hls := rise_next HN.out.1 hkN
        rw [HXX.out.1] at hls
        obtain ⟨y, hy⟩ : ∃ y, N[p] = y := ⟨_, rfl⟩
        rw [hy] at hcq hls
        have hls2 : Op.bytesLess y x = true := hls
        have e1 : (((p + 1 : Nat) : Int) - 1) = (p : Int) := by omega
        have e2 : (p : Int) < (N.length : Int) := by omega
        have e3 : IntKind.i64.wrap (p : Int) = (p : Int) := IntWalk.i64_in _ (by omega)
        clear hcp hbb' hy
        go_wp2_with fail
        go_roundw
        case rel => exact ⟨p + 1 + 1, _, by omega, by go_num, HD1.out.2.2, HD1.out.2.1, HD1.out.1⟩
        case measure => simp [intOf]; omega
      · have hd0 : decide ((0 : Int) < (k : Int)) = false := decide_eq_false (by omega)
        go_wp2_with fail
        go_roundw
        case rel => exact ⟨k + 1, _, by omega, by go_num, HD1.out.2.2, HD1.out.2.1, HD1.out.1⟩
        case measure => simp [intOf]; omega
    · obtain rfl : k = N.length := by omega
      have hD0 : Cnt D N (f2 N (pre s 0)) := by have := HD.out; rw [f1_all] at this; exact this
      have hS8 := HE.out.2.2.2.2.below (B' := M) (by rw [← hM7]; have := blk_lt HE.out.1; omega) hbk
      obtain ⟨c6, c7, c8⟩ := hS8
      have HD0 := Lib.hid (And.intro hD0 (And.intro hbk hown)); clear hD0 hbk hown hM7
      have HXA := Lib.hid (show ∀ r, r < 3 → _ from fun r hr => three s X hr)
      obtain ⟨XA0, Xn0, Xk0, XA1, Xn1, Xk1, XA2, Xn2, Xk2⟩ := X
      simp only at c6 c7 c8
      go_wp2_with fail
      clear c6 c7 c8
      go_loopw [66] (fun i wr => ∃ (r : Nat) (D : DataW Unit), r ≤ 3 ∧ i = .int .i64 (r : Nat) ∧ wr.ownsMap Tryd.prog 9 (plainElem (H := Unit) Tryd.prog 3) M (N.length + (pre s r).length) D ∧ Below M W7 wr ∧ Hid (Cnt D N (f2 N (pre s r)))) (fun i _ => 3 - (intOf i).toNat)
      case atStart => exact ⟨0, D, by omega, rfl, HD0.out.2.2, HD0.out.2.1, HD0.out.1⟩
      case round =>
        obtain ⟨r, D, hr, rfl, hown, hbk, HD⟩ := hrel
        obtain ⟨wo, rfl⟩ : ∃ wo : World, wo = wr := ⟨_, rfl⟩
        by_cases hr3 : r < 3
        · obtain ⟨A', n', c', hix, hsl⟩ := HXA.out r hr3
          have hok8 := HOK.out.below HE.out.2.2.2.1
          have hrd : Rd W7 1 A' n' (strs (Pl.ck s r)) := (hsl _ hok8).1
          have hnl : (Pl.ck s r).length = n' := by have := hrd.len1; rwa [strs_len] at this
          obtain ⟨L, hL⟩ : ∃ L, Pl.ck s r = L := ⟨_, rfl⟩
          have hps := pre_step s hr3
          have hcm := fun x h => ck_mem s hr3 (x := x) h
          have hpl := pre_len s (r + 1)
          rw [hL] at hrd hnl hps hcm
          obtain ⟨P, hP⟩ : ∃ P, pre s r = P := ⟨_, rfl⟩
          rw [hP] at hps hown HD
          rw [hps] at hpl
          have hPn : P.length + n' ≤ 1048576 := by rw [List.length_append, hnl] at hpl; have := HN.out.2.2.1; omega
          have HQ := Lib.hid (And.intro hrd (And.intro hnl (And.intro hps (And.intro hcm (And.intro hbk (And.intro hown HD.out)))))); clear hrd hnl hps hcm hpl hL hP hsl hok8 hbk hown
          have hj1 : (r : Int) < 3 := by omega
          go_wp2_with fail
          go_loopw [71] (fun j wr => ∃ (q : Nat) (D : DataW Unit), q ≤ n' ∧ j = .int .i64 (q : Nat) ∧ wr.ownsMap Tryd.prog 9 (plainElem (H := Unit) Tryd.prog 3) M (N.length + (P.length + q)) D ∧ Below M W7 wr ∧ Hid (Cnt D N (f2 N (P ++ L.take q)))) (fun j _ => n' - (intOf j).toNat)
          case atStart => exact ⟨0, D, by omega, rfl, by simpa using HQ.out.2.2.2.2.2.1, HQ.out.2.2.2.2.1, by show Cnt _ _ _; rw [List.take_zero, List.append_nil]; exact HQ.out.2.2.2.2.2.2⟩
          case round =>
            obtain ⟨q, D, hq, rfl, hown, hbk, HD⟩ := hrel
            by_cases hqn : q < n'
            · obtain ⟨b', off', rfl, hbb, hc1⟩ := HQ.out.1.at1 hqn
              have hqL : q < L.length := by rw [HQ.out.2.1]; exact hqn
              rw [strs_get L q hqL] at hc1
              obtain ⟨x, hx⟩ : ∃ x, L[q] = x := ⟨_, rfl⟩
              have hxa : x ∈ Pl.all3 s := HQ.out.2.2.2.1 x (by rw [← hx]; exact List.getElem_mem hqL)
              have hxN : x ∈ N := (HN.out.2.1 x).2 hxa
              have hxl := HN.out.2.2.2 x hxa
              rw [hx] at hc1
              have hc2 : wr.cell? ⟨b', off' + q, none⟩ = some (.string ⟨x.toArray⟩) := (hbk.cell (p := ⟨b', off' + q, none⟩) (by rw [← HM.out.2.2]; exact hbb)).trans hc1
              have htk : L.take (q + 1) = L.take q ++ [x] := by rw [← hx]; exact List.take_succ_eq_append_getElem hqL
              have hPL : (P ++ L.take q).length ≤ 1048576 := by rw [List.length_append, List.length_take]; omega
              obtain ⟨Pq, hPq⟩ : ∃ l, P ++ L.take q = l := ⟨_, rfl⟩
              rw [hPq] at hPL HD
              have hf1 := f2_pos (P := Pq) hxN
              have hf2 := (f2_bd N Pq x).2
              have hst := f2_step N Pq x
              obtain ⟨F, hF⟩ : ∃ F, f2 N Pq x = F := ⟨_, rfl⟩
              rw [hF] at hf1 hf2
              have hFb : F ≤ 1048577 := by omega
              have hFz : (F == 0) = false := by rw [beq_eq_false_iff_ne]; omega
              have hkey := key_tx (P := Tryd.prog) Tryd.underlying9 hxl
              have HXX := Lib.hid (And.intro hxN (And.intro hst (And.intro hF (And.intro htk hPq)))); clear hx hxa hxN hst hF htk hPq hc1 hbb hxl hqL hf2 hPL
              have hj2 : (q : Int) < (n' : Int) := by omega
              go_upto_region 25 with (first
                | (at_lookup; refine wpList_lookup_own_int _ rfl _ _ 47 rfl 9 3 .i64 law_s Tryd.underlying47 Tryd.underlying3 (zero_i _) M _ _ rfl hown _ _ rfl hkey ?_; intro c hat hwc; obtain rfl : F = c := (by rw [HD.out.at hat]; exact HXX.out.2.2.1.symm))
                | (at_mapUpdate; refine wpList_mapUpdate_own _ rfl _ _ _ 47 rfl 9 3 law_s Tryd.underlying47 _ M _ _ rfl hown (by unfold maxLen; omega) _ _ _ rfl rfl hkey _ [] (plainElem_int Tryd.underlying3 (lt_zero_wf _ (by omega) (by omega))) ?_; intro v1 hown1 hgrow1))
              have hD1 := HD.out.put HXX.out.1
              rw [HXX.out.2.1, HXX.out.2.2.1] at hD1
              have hb1 : Below M W7 v1 := hbk.grown hgrow1 (by rw [← HM.out.2.2]; exact hbk.size) (fun j hj => by cases hj; exact Nat.le_refl _)
              have HD1 := Lib.hid (And.intro hD1 (And.intro hb1 hown1)); clear hD1 hb1 hown1 hgrow1 hown hbk hc2 hkey hFz
              go_wp2_with fail
              go_roundw
              case rel => exact ⟨q + 1, _, by omega, by go_num, HD1.out.2.2, HD1.out.2.1, by show Cnt _ _ _; rw [HXX.out.2.2.2.1, ← List.append_assoc, HXX.out.2.2.2.2]; exact HD1.out.1⟩
              case measure => simp [intOf]; omega
            · obtain rfl : q = n' := by omega
              have hLt : L.take q = L := List.take_of_length_le (by rw [HQ.out.2.1]; exact Nat.le_refl _)
              have hD1 := HD.out
              rw [hLt, ← HQ.out.2.2.1] at hD1
              have hlen2 : (pre s (r + 1)).length = P.length + q := by rw [HQ.out.2.2.1, List.length_append, HQ.out.2.1]
              have HD1 := Lib.hid (And.intro hD1 (And.intro hbk (show wr.ownsMap Tryd.prog 9 (plainElem (H := Unit) Tryd.prog 3) M (N.length + (pre s (r + 1)).length) D from by rw [hlen2]; exact hown))); clear hD1 hbk hown hLt hlen2
              go_wp2_with fail
              go_roundw
              case rel => exact ⟨r + 1, D, by omega, by go_num, HD1.out.2.2, HD1.out.2.1, HD1.out.1⟩
              case measure => simp [intOf]; omega
        · obtain rfl : r = 3 := by omega
          have hD3 := HD.out
          rw [pre_all] at hD3
          have HD3 := Lib.hid (And.intro hD3 hbk); clear hD3 hbk
          obtain ⟨nm, hnm⟩ : ∃ n, N.length + (pre s 3).length = n := ⟨_, rfl⟩
          rw [hnm] at hown
          clear hnm
          rw [show ((3 : Nat) : Int) = 3 from rfl]
          go_wp2_with (at_range; refine wpList_range_own _ rfl _ 47 rfl 9 3 law_s Tryd.underlying47 _ M nm _ rfl hown ?_; intro w0 hrg0 hg0 hs0)
          go_frame
          have hsM : M ≤ wo.heap.size := by rw [← HM.out.2.2]; exact HD3.out.2.size
          have hb0 : Below M W7 w0 := HD3.out.2.grown hg0 hsM (fun j hj => by cases hj)
          have HR0 := Lib.hid (And.intro hrg0 hb0); clear hrg0 hg0 hb0 hown
          go_loopw [13] (fun _ wr => ∃ (left : Lit → Bool) (cnt : Nat), wr.ranges Tryd.prog 9 (plainElem (H := Unit) Tryd.prog 3) M wo.heap.size nm D left cnt ∧ Below M W7 wr ∧ Hid (∀ kl, left kl = true → Maps.has D kl = true)) (fun _ wr => wr.rangeLeft M wo.heap.size)
          case atStart => exact ⟨_, _, HR0.out.1, HR0.out.2, fun kl h => h⟩
          case round =>
            obtain ⟨left, cnt, hrg, hbk, HLF⟩ := hrel
            go_wp2_with (at_next; refine wpList_next_ranges (α := ByteArray) (β := Int) _ rfl _ rfl 9 law_s (plainElem (H := Unit) Tryd.prog 3) Value.string (Value.int .i64) (fun key kl h => by obtain ⟨s, h1, _⟩ := string_of_keyOf Tryd.underlying9 h; exact ⟨s, h1⟩) (fun v y h => by obtain ⟨c, h1, _⟩ := plainElem_int_inv Tryd.underlying3 h; exact ⟨c, h1⟩) M wo.heap.size nm _ _ _ rfl hrg ?_ ?_)
            · intro _ hl0
              have hH7 : H < M := by rw [← HM.out.2.2]; exact blk_lt HE.out.1
              have hz := (hbk.block H hH7).trans HE.out.1
              have hrow := range_row hz
              have hokT := HE.out.2.1.below (hbk.mono (by rw [HM.out.2.2]; exact Nat.le_refl _))
              have hiT := info_sn hokT
              obtain ⟨LT, hLT⟩ : ∃ L, snL (turn s) ⟨XA2, Xn2, Xk2, A2, nn, c2, none, 0, 0⟩ = L := ⟨_, rfl⟩
              rw [hLT] at hrow hiT
              have hNr : Rd wr 1 A N.length (strs N) := HE.out.2.2.1.below (hbk.mono (by rw [HM.out.2.2]; exact Nat.le_refl _))
              have HT := Lib.hid (And.intro hLT (And.intro hokT (And.intro hNr hbk))); clear hLT hokT hNr hbk hz hrg hl0
              go_wp2_with (with_reducible refine wpList_load_mid rfl 28 _ rfl H 0 rfl LT _ hrow Tryd.underlying28 rfl hiT ?_)
              rw [← HT.out.1]
              (with_reducible refine (HH.out.2.2 _ _ HT.out.2.1).mono ?_)
              rintro e w9 ⟨v, rfl, ⟨A9, c9, rfl, hr9⟩, hb9⟩
              rw [HT.out.1]
              have hsame := same_any A9 A N.length N.length c9 c N N w9 hr9 (HT.out.2.2.1.below hb9) (by omega) (by omega)
              rw [show decide (N = N) = true from decide_eq_true rfl] at hsame
              have HSM := Lib.hid hsame; clear hsame hr9
              go_wp2_with fail
              (with_reducible refine HSM.out.mono ?_)
              rintro e w10 ⟨rfl, q, rfl⟩
              go_wp2_with fail
              go_ret
              exact ⟨_, rfl, rfl, below_drewN ((HE.out.2.2.2.1.trans ((HT.out.2.2.2.trans (hb9.mono (Nat.le_trans (by rw [← HM.out.2.2]; exact Nat.le_refl _) HT.out.2.2.2.size))).mono (by rw [← HM.out.2.2]; exact HE.out.2.2.2.1.size)))) q⟩
            · intro x c' kl y ps v1 cnt1 hkey hlk hR hat hrg1 hlt hg1 hs1 hen
              obtain ⟨s', e1, rfl, _⟩ := string_of_keyOf Tryd.underlying9 hkey
              obtain ⟨c'', e2, e3, _⟩ := plainElem_int_inv Tryd.underlying3 hR
              cases e1; cases e2
              injection e3 with e3 e4
              subst e3 e4
              have hxN := HD3.out.1.h _ (HLF.out _ hlk)
              have hcf := HD3.out.1.at (hat (.lit (.int .i64 0)))
              have h2 := f2_two (P := Pl.all3 s) hxN ((HN.out.2.1 _).1 hxN)
              rw [← hcf] at h2
              have hd2 : decide (c' < 2) = false := decide_eq_false (by omega)
              have hb1 : Below M W7 v1 := hbk.grown hg1 (by rw [← HM.out.2.2]; exact hbk.size) (fun j hj => by cases hj; exact hsM)
              have HZ := Lib.hid (And.intro hrg1 (And.intro hb1 (And.intro hlt (show ∀ z, (left z && !z.sameKey (.string x.data.toList)) = true → Maps.has D z = true from fun z hz => HLF.out z (by simp only [Bool.and_eq_true] at hz; exact hz.1)))))
              clear hb1 hlt hcf hxN h2 hat hR hkey hlk hbk hg1
              go_wp2_with fail
              go_roundw
              case rel => exact ⟨_, cnt1, HZ.out.1, HZ.out.2.1, HZ.out.2.2.2⟩
              case measure => rw [HZ.out.1.left_eq, hrg.left_eq]; exact HZ.out.2.2.1
end Go.Proofs.YtommlolhpaeioaaDoor
