/- ManifestTells: the walk: of any snapshot whether it may be, its chunks' names, and its bytes. -/
import Derived.Test.YtommlolhpaeioaaDoorMfAl
import Derived.Test.YtommlolhpaeioaaDoorMfRbW
import Derived.Test.YtommlolhpaeioaaDoorMf4W
import Derived.Test.YtommlolhpaeioaaDoorOpenSn
namespace Go.Proofs.YtommlolhpaeioaaDoor
open Go.RowKit
set_option linter.unusedVariables false
set_option linter.unusedSimpArgs false
attribute [local go_sem] ba_get ba_cut ba_add
theorem totN_all (s : Pl.Snap) : s.c0.length + s.c1.length + s.c2.length ≤ Pl.totN s := by
  have h1 := sumLen_length (Pl.all3 s)
  unfold Pl.totN
  unfold Pl.all3 at h1 ⊢
  simp only [List.length_append] at h1
  omega
theorem range_keep {w w' : World} {B o B' : Nat} {cs : List Value} (h : w.rangeAt B o cs) (hB : B < B') (hb : Below B' w w') : w'.rangeAt B o cs := fun j v hv => (hb.cell (p := ⟨B, o + j, none⟩) hB).trans (h j v hv)
set_option maxRecDepth 100000 in
set_option maxHeartbeats 8000000 in
theorem manifestTells_walk (s : Pl.Snap) (X : Cx) (w : World) (hok : SnOk w s X) (hfit : SnFit s) (hnum : SnNum s) (hbulk : Pl.totN s ≤ 1048576) (hv : VTab w) : Calls Tryd.prog 5 #[.agg (snL s X).toArray] w (RetB (fun v _ => v = .bool true) w) := by
  have htot : s.c0.length + s.c1.length + s.c2.length ≤ 1099511627776 := by have := totN_all s; omega
  have hg := fun W h => great41_any s X W h hfit
  obtain ⟨G, hG⟩ : ∃ G : Int, (if 10000 < Pl.greatN s then (1 : Int) else 0) = G := ⟨_, rfl⟩
  have hG01 : G = 1 ∨ G = 0 := by rw [← hG]; split <;> simp
  simp only [hG] at hg
  have hb := fun W h hv => mbytes_any s X W h hfit hnum.c hv
  have hr := fun W h => rmbytes_any s X W h hfit hnum.c
  obtain ⟨⟨bs, be⟩, hR⟩ : ∃ R, Pl.mbytes s = R := ⟨_, rfl⟩
  rw [hR] at hb hr
  unfold bytesV at hb hr
  have hc := fun W h => mcheck_any s X W h hfit
  have hrc := fun W h => rmcheck_any s X W h hfit
  obtain ⟨E, hE⟩ : ∃ E, Pl.mchk s = E := ⟨_, rfl⟩
  rw [hE] at hc hrc
  have hn := fun W h => mnames_any s X W h hfit htot
  have hrn := fun W h => rnames_any s X W h hfit htot
  rw [Pl.namesP_R] at hn
  obtain ⟨N, hN⟩ : ∃ N, Pl.namesR (Pl.all3 s) = N := ⟨_, rfl⟩
  have hNl : N.length ≤ 1048576 := by
    have h1 := namesR_len (Pl.all3 s)
    have h2 := sumLen_length (Pl.all3 s)
    rw [hN] at h1
    unfold Pl.totN at hbulk
    omega
  rw [hN] at hn hrn
  have HH := Lib.hid (And.intro hg (And.intro hb (And.intro hr (And.intro hc (And.intro hrc (And.intro hn hrn))))))
  have HI := Lib.hid (info_sn hok)
  have HOK := Lib.hid hok
  clear hg hb hr hc hrc hn hrn hG hR hE hN htot hfit hnum hbulk
  obtain ⟨LS, hLS⟩ : ∃ L, snL s X = L := ⟨_, rfl⟩
  rw [hLS]
  have HLS := Lib.hid hLS
  go_enter Tryd.func5, Tryd.ntmps5
  go_upto_region 1 with (fail)
  generalize hV : w.alloc _ = V
  have hx : SnAt V w.heap.size 0 s X := by rw [← hV, ← hLS]; exact snAt_new w s X
  have hbV : Below w.heap.size w V := by rw [← hV]; exact (Below.refl _ _).alloc (Nat.le_refl _) _
  have hBV : w.heap.size < V.heap.size := by rw [← hV]; simp
  have hvV := hv.keep hbV (Nat.le_refl _)
  have hinf := HI.out
  rw [hLS] at hinf
  clear hV hLS hok hv
  go_wp2_with fail
  (with_reducible refine (alive41_any _ hvV).mono ?_)
  rintro e w1 ⟨v, rfl, rfl, hb1⟩
  have hd1 : Below w.heap.size w w1 := hbV.trans (hb1.mono hbV.size)
  have hx1 := hx.below hBV hb1
  have hB1 : w.heap.size < w1.heap.size := Nat.lt_of_lt_of_le hBV hb1.size
  have hv1 := hvV.keep hb1 (Nat.le_refl _)
  have hr1 := snAt_range hx1
  rw [HLS.out] at hr1
  clear hx hbV hBV hb1 hvV
  go_wp2_with (with_reducible refine wpList_load_mid rfl 28 _ rfl w.heap.size 0 rfl LS _ hr1 Tryd.underlying28 rfl hinf ?_)
  rw [← HLS.out]
  (with_reducible refine (HH.out.1 _ (HOK.out.below hd1)).mono ?_)
  rintro e w2 ⟨v, rfl, rfl, hb2⟩
  rw [HLS.out]
  have hd2 : Below w.heap.size w w2 := hd1.trans (hb2.mono hd1.size)
  have hx2 := hx1.below hB1 hb2
  have hB2 : w.heap.size < w2.heap.size := Nat.lt_of_lt_of_le hB1 hb2.size
  have hv2 := hv1.keep hb2 (Nat.le_refl _)
  have hr2 := snAt_range hx2
  rw [HLS.out] at hr2
  clear hx1 hd1 hB1 hb2 hv1 hr1
  rcases hG01 with rfl | rfl
  · go_wp2_with fail
    go_ret
    exact ⟨_, rfl, rfl, hd2⟩
  go_wp2_with (with_reducible refine wpList_load_mid rfl 28 _ rfl w.heap.size 0 rfl LS _ hr2 Tryd.underlying28 rfl hinf ?_)
  rw [← HLS.out]
  (with_reducible refine (HH.out.2.1 _ (HOK.out.below hd2) hv2).mono ?_)
  rintro e w3 ⟨v, rfl, rfl, hb3⟩
  rw [HLS.out]
  have hd3 : Below w.heap.size w w3 := hd2.trans (hb3.mono hd2.size)
  have hx3 := hx2.below hB2 hb3
  have hB3 : w.heap.size < w3.heap.size := Nat.lt_of_lt_of_le hB2 hb3.size
  have hr3 := snAt_range hx3
  rw [HLS.out] at hr3
  clear hx2 hd2 hB2 hb3 hv2 hr2
  go_wp2_with (with_reducible refine wpList_load_mid rfl 28 _ rfl w.heap.size 0 rfl LS _ hr3 Tryd.underlying28 rfl hinf ?_)
  rw [← HLS.out]
  (with_reducible refine (HH.out.2.2.1 _ (HOK.out.below hd3)).mono ?_)
  rintro e w4 ⟨v, rfl, rfl, hb4⟩
  rw [HLS.out]
  have hd4 : Below w.heap.size w w4 := hd3.trans (hb4.mono hd3.size)
  have hx4 := hx3.below hB3 hb4
  have hB4 : w.heap.size < w4.heap.size := Nat.lt_of_lt_of_le hB3 hb4.size
  clear hx3 hd3 hB3 hb4 hr3
  go_wp2_with fail
  obtain ⟨B, hB⟩ : ∃ B, w.heap.size = B := ⟨_, rfl⟩
  have hr4 := snAt_range hx4
  rw [HLS.out] at hr4
  have hEE : ((E : Int) == (E : Int)) = true := beq_iff_eq.2 rfl
  have hBB : (bs == bs) = true := beq_iff_eq.2 rfl
  have hbb : ((be : Int) == (be : Int)) = true := beq_iff_eq.2 rfl
  rw [hB] at hr4 hx4 hB4 ⊢
  have HBW := Lib.hid hB; clear hB
  refine wp_region_held_drew (S := (fun w' => w'.rangeAt B 0 LS)) (by kernel_rfl) (by exact hr4) (fun hHeld => ?_)
  refine wpAnyH_take (i := 0) (v := .agg (LS).toArray) rfl (by kernel_rfl) (by kernel_rfl) (by kernel_rfl) (fun _ _ _ h => h) (yieldsIf_load_mid (by kernel_rfl) 28 _ rfl B 0 rfl LS _ (fun _ h => h) Tryd.underlying28 rfl hinf) hHeld ?_
  simp only [Act.put, List.setIfInBounds_toArray, List.set_cons_zero, List.set_cons_succ, List.getElem_toArray, List.getElem_cons_succ, List.getElem_cons_zero]
  refine wpAnyH_take (i := 2) (v := .agg (LS).toArray) rfl (by kernel_rfl) (by kernel_rfl) (by kernel_rfl) (fun _ _ _ h => h) (yieldsIf_load_mid (by kernel_rfl) 28 _ rfl B 0 rfl LS _ (fun _ h => h) Tryd.underlying28 rfl hinf) hHeld ?_
  simp only [Act.put, List.setIfInBounds_toArray, List.set_cons_zero, List.set_cons_succ, List.getElem_toArray, List.getElem_cons_succ, List.getElem_cons_zero]
  refine wpAnyH_ready (rs := [1]) (by kernel_rfl) (by simp) (AllReadyH.cons rfl (fun K hK => ?_) AllReadyH.nil)
  go_simp
  rw [← HLS.out]
  (with_reducible refine (HH.out.2.2.2.1 _ (HOK.out.below hd4.drew)).mono ?_)
  rintro e w5 ⟨v, rfl, rfl, hb5⟩
  rw [HLS.out]
  have hd5 : Below w.heap.size w w5 := hd4.drew.trans (hb5.mono (by have := hd4.size; simpa using this))
  have hr5 : w5.rangeAt B 0 LS := range_keep (w := w4.drew) hr4 (by simpa using hB4) hb5
  have hB5 : B < w5.heap.size := Nat.lt_of_lt_of_le hB4 (by have := hb5.size; simpa using this)
  refine hK.out _ _ hr5 (fun hHeld => ?_)
  clear hK K
  (try simp only [Act.put, List.setIfInBounds_toArray, List.set_cons_zero, List.set_cons_succ, List.getElem_toArray, List.getElem_cons_succ, List.getElem_cons_zero])
  refine wpAnyH_ready (rs := [3]) (by kernel_rfl) (by simp) (AllReadyH.cons rfl (fun K hK => ?_) AllReadyH.nil)
  go_simp
  rw [← HLS.out]
  (with_reducible refine (HH.out.2.2.2.2.1 _ (HOK.out.below hd5)).mono ?_)
  rintro e w6 ⟨v, rfl, rfl, hb6⟩
  rw [HLS.out]
  have hd6 : Below w.heap.size w w6 := hd5.trans (hb6.mono hd5.size)
  have hr6 := range_keep hr5 hB5 hb6
  have hB6 : B < w6.heap.size := Nat.lt_of_lt_of_le hB5 hb6.size
  refine hK.out _ _ hr6 (fun hHeld => ?_)
  clear hK K
  (try simp only [Act.put, List.setIfInBounds_toArray, List.set_cons_zero, List.set_cons_succ, List.getElem_toArray, List.getElem_cons_succ, List.getElem_cons_zero])
  refine wpAnyH_take (i := 4) (v := ?_) rfl (by kernel_rfl) (by kernel_rfl) (by kernel_rfl) (fun _ _ _ h => h) (Or.inl ⟨by kernel_rfl, ?_⟩) hHeld ?_
  rotate_left
  · (intro w' hSw; (try dsimp only at hSw); go_simp; try with_reducible rfl)
  simp only [Act.put, List.setIfInBounds_toArray, List.set_cons_zero, List.set_cons_succ, List.getElem_toArray, List.getElem_cons_succ, List.getElem_cons_zero]
  refine wpAnyH_take (i := 5) (v := ?_) rfl (by kernel_rfl) (by kernel_rfl) (by kernel_rfl) (fun _ _ _ h => h) (Or.inl ⟨by kernel_rfl, ?_⟩) hHeld ?_
  rotate_left
  · (intro w' hSw; (try dsimp only at hSw); go_simp; try with_reducible rfl)
  simp only [Act.put, List.setIfInBounds_toArray, List.set_cons_zero, List.set_cons_succ, List.getElem_toArray, List.getElem_cons_succ, List.getElem_cons_zero]
  refine wpAnyH_take (i := 6) (v := .agg (LS).toArray) rfl (by kernel_rfl) (by kernel_rfl) (by kernel_rfl) (fun _ _ _ h => h) (yieldsIf_load_mid (by kernel_rfl) 28 _ rfl B 0 rfl LS _ (fun _ h => h) Tryd.underlying28 rfl hinf) hHeld ?_
  simp only [Act.put, List.setIfInBounds_toArray, List.set_cons_zero, List.set_cons_succ, List.getElem_toArray, List.getElem_cons_succ, List.getElem_cons_zero]
  refine wpAnyH_take (i := 8) (v := .agg (LS).toArray) rfl (by kernel_rfl) (by kernel_rfl) (by kernel_rfl) (fun _ _ _ h => h) (yieldsIf_load_mid (by kernel_rfl) 28 _ rfl B 0 rfl LS _ (fun _ h => h) Tryd.underlying28 rfl hinf) hHeld ?_
  simp only [Act.put, List.setIfInBounds_toArray, List.set_cons_zero, List.set_cons_succ, List.getElem_toArray, List.getElem_cons_succ, List.getElem_cons_zero]
  refine wpAnyH_ready (rs := [7]) (by kernel_rfl) (by simp) (AllReadyH.cons rfl (fun K hK => ?_) AllReadyH.nil)
  go_simp
  rw [← HLS.out]
  (with_reducible refine (HH.out.2.2.2.2.2.1 _ (HOK.out.below hd6)).mono ?_)
  rintro e w7 ⟨v, rfl, ⟨A, c, rfl, hra⟩, hb7⟩
  rw [HLS.out]
  have hd7 : Below w.heap.size w w7 := hd6.trans (hb7.mono hd6.size)
  have hr7 := range_keep hr6 hB6 hb7
  have hB7 : B < w7.heap.size := Nat.lt_of_lt_of_le hB6 hb7.size
  refine hK.out _ _ hr7 (fun hHeld => ?_)
  clear hK K
  (try simp only [Act.put, List.setIfInBounds_toArray, List.set_cons_zero, List.set_cons_succ, List.getElem_toArray, List.getElem_cons_succ, List.getElem_cons_zero])
  refine wpAnyH_ready (rs := [9]) (by kernel_rfl) (by simp) (AllReadyH.cons rfl (fun K hK => ?_) AllReadyH.nil)
  go_simp
  rw [← HLS.out]
  (with_reducible refine (HH.out.2.2.2.2.2.2 _ (HOK.out.below hd7)).mono ?_)
  rintro e w8 ⟨v, rfl, ⟨A', c', rfl, hrb⟩, hb8⟩
  rw [HLS.out]
  have hd8 : Below w.heap.size w w8 := hd7.trans (hb8.mono hd7.size)
  have hr8 := range_keep hr7 hB7 hb8
  have hra8 := hra.below hb8
  have hsame := same_any A A' N.length N.length c c' N N w8 hra8 hrb (by omega) (by omega)
  rw [show decide (N = N) = true from decide_eq_true rfl] at hsame
  have HSM := Lib.hid hsame; clear hsame hra hra8 hrb
  refine hK.out _ _ hr8 (fun hHeld => ?_)
  clear hK K
  (try simp only [Act.put, List.setIfInBounds_toArray, List.set_cons_zero, List.set_cons_succ, List.getElem_toArray, List.getElem_cons_succ, List.getElem_cons_zero])
  refine wpAnyH_ready (rs := [10]) (by kernel_rfl) (by simp) (AllReadyH.cons rfl (fun K hK => ?_) AllReadyH.nil)
  go_simp
  (with_reducible refine HSM.out.mono ?_)
  rintro e w9 ⟨rfl, q, rfl⟩
  have hr9 : (w8.drewN q).rangeAt B 0 LS := hr8
  refine hK.out _ _ hr9 (fun hHeld => ?_)
  clear hK K
  (try simp only [Act.put, List.setIfInBounds_toArray, List.set_cons_zero, List.set_cons_succ, List.getElem_toArray, List.getElem_cons_succ, List.getElem_cons_zero])
  refine wpAnyH_take (i := 11) (v := ?_) rfl (by kernel_rfl) (by kernel_rfl) (by kernel_rfl) (fun _ _ _ h => h) (Or.inl ⟨by kernel_rfl, ?_⟩) hHeld ?_
  rotate_left
  · (intro w' hSw; (try dsimp only at hSw); go_simp; try with_reducible rfl)
  simp only [Act.put, List.setIfInBounds_toArray, List.set_cons_zero, List.set_cons_succ, List.getElem_toArray, List.getElem_cons_succ, List.getElem_cons_zero]
  refine wpAnyH_take (i := 12) (v := ?_) rfl (by kernel_rfl) (by kernel_rfl) (by kernel_rfl) (fun _ _ _ h => h) (Or.inl ⟨by kernel_rfl, ?_⟩) hHeld ?_
  rotate_left
  · (intro w' hSw; (try dsimp only at hSw); go_simp; try with_reducible rfl)
  simp only [Act.put, List.setIfInBounds_toArray, List.set_cons_zero, List.set_cons_succ, List.getElem_toArray, List.getElem_cons_succ, List.getElem_cons_zero]
  refine wpAnyH_take (i := 13) (v := ?_) rfl (by kernel_rfl) (by kernel_rfl) (by kernel_rfl) (fun _ _ _ h => h) (Or.inl ⟨by kernel_rfl, ?_⟩) hHeld ?_
  rotate_left
  · (intro w' hSw; (try dsimp only at hSw); go_simp; try with_reducible rfl)
  simp only [Act.put, List.setIfInBounds_toArray, List.set_cons_zero, List.set_cons_succ, List.getElem_toArray, List.getElem_cons_succ, List.getElem_cons_zero]
  refine wpAnyH_take (i := 14) (v := ?_) rfl (by kernel_rfl) (by kernel_rfl) (by kernel_rfl) (fun _ _ _ h => h) (Or.inl ⟨by kernel_rfl, ?_⟩) hHeld ?_
  rotate_left
  · (intro w' hSw; (try dsimp only at hSw); go_simp; try with_reducible rfl)
  simp only [Act.put, List.setIfInBounds_toArray, List.set_cons_zero, List.set_cons_succ, List.getElem_toArray, List.getElem_cons_succ, List.getElem_cons_zero]
  refine wpAnyH_take (i := 15) (v := ?_) rfl (by kernel_rfl) (by kernel_rfl) (by kernel_rfl) (fun _ _ _ h => h) (Or.inl ⟨by kernel_rfl, ?_⟩) hHeld ?_
  rotate_left
  · (intro w' hSw; (try dsimp only at hSw); go_simp; try with_reducible rfl)
  simp only [Act.put, List.setIfInBounds_toArray, List.set_cons_zero, List.set_cons_succ, List.getElem_toArray, List.getElem_cons_succ, List.getElem_cons_zero]
  refine wpAnyH_take (i := 16) (v := ?_) rfl (by kernel_rfl) (by kernel_rfl) (by kernel_rfl) (fun _ _ _ h => h) (Or.inl ⟨by kernel_rfl, ?_⟩) hHeld ?_
  rotate_left
  · (intro w' hSw; (try dsimp only at hSw); go_simp; try with_reducible rfl)
  simp only [Act.put, List.setIfInBounds_toArray, List.set_cons_zero, List.set_cons_succ, List.getElem_toArray, List.getElem_cons_succ, List.getElem_cons_zero]
  refine wpAnyH_take (i := 17) (v := ?_) rfl (by kernel_rfl) (by kernel_rfl) (by kernel_rfl) (fun _ _ _ h => h) (Or.inl ⟨by kernel_rfl, ?_⟩) hHeld ?_
  rotate_left
  · (intro w' hSw; (try dsimp only at hSw); go_simp; try with_reducible rfl)
  simp only [Act.put, List.setIfInBounds_toArray, List.set_cons_zero, List.set_cons_succ, List.getElem_toArray, List.getElem_cons_succ, List.getElem_cons_zero]
  refine wpAnyH_take (i := 18) (v := ?_) rfl (by kernel_rfl) (by kernel_rfl) (by kernel_rfl) (fun _ _ _ h => h) (Or.inl ⟨by kernel_rfl, ?_⟩) hHeld ?_
  rotate_left
  · (intro w' hSw; (try dsimp only at hSw); go_simp; try with_reducible rfl)
  simp only [Act.put, List.setIfInBounds_toArray, List.set_cons_zero, List.set_cons_succ, List.getElem_toArray, List.getElem_cons_succ, List.getElem_cons_zero]
  refine wpAnyH_take (i := 19) (v := ?_) rfl (by kernel_rfl) (by kernel_rfl) (by kernel_rfl) (fun _ _ _ h => h) (Or.inl ⟨by kernel_rfl, ?_⟩) hHeld ?_
  rotate_left
  · (intro w' hSw; (try dsimp only at hSw); go_simp; try with_reducible rfl)
  simp only [Act.put, List.setIfInBounds_toArray, List.set_cons_zero, List.set_cons_succ, List.getElem_toArray, List.getElem_cons_succ, List.getElem_cons_zero]
  refine wpAnyH_take (i := 20) (v := ?_) rfl (by kernel_rfl) (by kernel_rfl) (by kernel_rfl) (fun _ _ _ h => h) (Or.inl ⟨by kernel_rfl, ?_⟩) hHeld ?_
  rotate_left
  · (intro w' hSw; (try dsimp only at hSw); go_simp; try with_reducible rfl)
  simp only [Act.put, List.setIfInBounds_toArray, List.set_cons_zero, List.set_cons_succ, List.getElem_toArray, List.getElem_cons_succ, List.getElem_cons_zero]
  refine wpAnyH_take (i := 21) (v := ?_) rfl (by kernel_rfl) (by kernel_rfl) (by kernel_rfl) (fun _ _ _ h => h) (Or.inl ⟨by kernel_rfl, ?_⟩) hHeld ?_
  rotate_left
  · (intro w' hSw; (try dsimp only at hSw); go_simp; try with_reducible rfl)
  simp only [Act.put, List.setIfInBounds_toArray, List.set_cons_zero, List.set_cons_succ, List.getElem_toArray, List.getElem_cons_succ, List.getElem_cons_zero]
  refine wpAnyH_take (i := 22) (v := ?_) rfl (by kernel_rfl) (by kernel_rfl) (by kernel_rfl) (fun _ _ _ h => h) (Or.inl ⟨by kernel_rfl, ?_⟩) hHeld ?_
  rotate_left
  · (intro w' hSw; (try dsimp only at hSw); go_simp; try with_reducible rfl)
  simp only [Act.put, List.setIfInBounds_toArray, List.set_cons_zero, List.set_cons_succ, List.getElem_toArray, List.getElem_cons_succ, List.getElem_cons_zero]
  refine wpAnyH_done (by kernel_rfl) ?_ _
  go_wp2_with fail
  go_ret
  exact ⟨_, rfl, rfl, below_drewN hd8 q⟩
end Go.Proofs.YtommlolhpaeioaaDoor
