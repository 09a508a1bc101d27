/- WirePuts holds: why a message may not be, and its bytes, are the document's; it is got as it again. No condition. -/
import Derived.Test.YtommlolhpaeioaaDoorLaid
import Derived.Test.YtommlolhpaeioaaDoorTie
import Derived.Test.YtommlolhpaeioaaDoorCards
import Derived.Deep.DeepHandedRow
import Derived.Deep.DeepWitnessRowRef
import Derived.Lib.LaidTab
import Derived.Test.YtommlolhpaeioaaDoorWireG
import Derived.Test.YtommlolhpaeioaaDoorRefB
import Derived.Test.YtommlolhpaeioaaDoorWireK
import Derived.Test.YtommlolhpaeioaaDoorWireS
import Derived.Test.YtommlolhpaeioaaDoorOpenMg
namespace Go.Proofs.YtommlolhpaeioaaDoor
open Go.ChangeShapes Go.WideShapes Go.ChangeAt Go.RowKit
set_option linter.unusedVariables false
set_option linter.unusedSimpArgs false
attribute [local go_sem] ba_get ba_cut ba_add
theorem mg_mok {w : World} {m : Pl.Msg} {X : Cx} (h : SnOk w m.snap X) (hn : MgNum m) : Pl.MOk m := ⟨h.sum, hn.snap.c, hn.k, hn.n, hn.why⟩
theorem wput_two (m : Pl.Msg) : (Pl.wput m).2 = Pl.wchk m := by
  by_cases h : Pl.wchk m = 0
  · rw [Pl.wput_ok h, h]
  · rw [Pl.wput_no h]
theorem fitM0 : MgFit Pl.zeroM := ⟨by decide, fit_zero⟩
theorem wput_len {m : Pl.Msg} (hm : Pl.MOk m) (h : Pl.wchk m = 0) : 0 < (Pl.wput m).1.length ∧ (Pl.wput m).1.length ≤ 2816046 := by
  rw [Pl.wput_ok h]
  have h1 := Pl.rowB_len_le [Lib.itoa m.k, Pl.bodyM m] 704011 (Pl.row_short (Pl.wOk_of h) hm)
  simp only [show ([Lib.itoa m.k, Pl.bodyM m] : List (List UInt8)).length = 2 from rfl] at h1
  have h2 := List.length_pos_iff.2 (Pl.lenB_ne (Lib.itoa m.k).length)
  have h3 : (Pl.rowB [Lib.itoa m.k, Pl.bodyM m]).length = (Pl.lenB (Lib.itoa m.k).length).length + ((Lib.itoa m.k).length + (Pl.rowB [Pl.bodyM m]).length) := by simp [Pl.rowB]
  constructor <;> simp only <;> omega
set_option maxRecDepth 100000 in
set_option maxHeartbeats 8000000 in
theorem wirePuts_walk (m : Pl.Msg) (X : Cx) (w : World) (hm0 : SnOk w m.snap X) (fm : MgFit m) (nm : MgNum m) (hv : VNum w) :
    Calls Tryd.prog 7 #[.agg (mgL m X).toArray] w (RetB (fun v _ => v = .bool true) w) := by
  have hok := mg_mok hm0 nm
  have HSM := Lib.hid hm0.sum
  have HI := Lib.hid (info_mg hm0)
  have g1 := fun W h => great44_any m X W h fm
  have p1 := fun W h hv => wput_any m X W h fm hok hv
  have p2 := fun W h => rput44_any m X W h fm hok
  have c1 := fun W h => wcheck_any m X W h fm
  have c2 := fun W h => rcheck44_any m X W h fm
  have s1 := fun X' W h h2 => same44_any m m X' X W h h2 fm fm
  rw [show Pl.eqM m m = true from (Pl.eqM_iff _ _).2 rfl] at s1
  have ee := wput_two m
  have hlen := fun h => wput_len hok h
  have hgt := fun h => Pl.wget_put (m := m) h hok
  obtain ⟨P, hP⟩ : ∃ P, Pl.wput m = P := ⟨_, rfl⟩
  rw [hP] at p1 p2 ee hlen hgt
  obtain ⟨B, E⟩ := P
  simp only at ee hlen hgt
  rw [← ee] at hlen c1 c2 hgt
  have HG := Lib.hid (And.intro g1 (And.intro p1 (And.intro p2 (And.intro c1 (And.intro c2 s1)))))
  have HN := Lib.hid (And.intro hlen hgt)
  have HOK := Lib.hid hm0
  have HV := Lib.hid hv
  clear g1 p1 p2 c1 c2 s1 ee hlen hgt hP hm0 hv hok fm nm
  obtain ⟨LA, hLA⟩ : ∃ L, mgL m X = L := ⟨_, rfl⟩
  rw [hLA]
  have HLL := Lib.hid hLA
  go_enter Tryd.func7, Tryd.ntmps7
  go_upto_region 1 with (fail)
  generalize hV : w.alloc _ = V
  have hx : Mg V w.heap.size m X := by rw [← hV, ← hLA]; exact mg_row HSM.out (heap_alloc_new w _)
  have hbV : Below w.heap.size w V := by rw [← hV]; exact (Below.refl _ _).alloc (Nat.le_refl _) _
  have hBV : w.heap.size < V.heap.size := by rw [← hV]; simp
  clear hV hLA
  have HD := Lib.hid hbV
  have hi1 := HI.out
  rw [HLL.out] at hi1
  have HX := Lib.hid hx; clear hx
  have HK := Lib.hid (show ∀ W, Below V.heap.size V W → W.rangeAt w.heap.size 0 LA from fun W hb => by
    have h1 := (HX.out.keep HSM.out hBV hb).all
    rwa [HLL.out] at h1)
  have HKB := Lib.hid (show ∀ W, Below V.heap.size V W → Below w.heap.size w W from fun W hb => hbV.trans (hb.mono hbV.size))
  clear hbV hBV
  have hr1 := HK.out V (Below.refl _ _)
  go_wp2_with (with_reducible refine wpList_load_mid rfl 31 _ rfl w.heap.size 0 rfl LA _ hr1 Tryd.underlying31 rfl hi1 ?_)
  rw [← HLL.out]
  (with_reducible refine (HG.out.1 _ (HOK.out.below HD.out)).mono ?_)
  rintro e w1 ⟨v, rfl, hv1, hb1⟩
  rw [HLL.out]
  replace hr1 := HK.out _ hb1
  rcases hv1 with rfl | rfl
  rotate_left
  · go_wp2_with fail
    have hvz := HV.out.tab.keep (HKB.out _ hb1) (Nat.le_refl _)
    (with_reducible refine (awake44_any _ hvz).mono ?_)
    rintro e wz ⟨v, rfl, rfl, hbz⟩
    have hdz := (HKB.out _ hb1).trans (hbz.mono (HKB.out _ hb1).size)
    clear hbz
    go_wp2_with fail
    go_ret
    exact ⟨_, rfl, rfl, hdz⟩
  go_wp2_with (with_reducible refine wpList_load_mid rfl 31 _ rfl w.heap.size 0 rfl LA _ hr1 Tryd.underlying31 rfl hi1 ?_)
  rw [← HLL.out]
  (with_reducible refine (HG.out.2.1 _ (HOK.out.below (HKB.out _ hb1)) (HV.out.tab.keep (HKB.out _ hb1) (Nat.le_refl _))).mono ?_)
  rintro e w2 ⟨v, rfl, rfl, hb2⟩
  rw [HLL.out]
  replace hb1 := hb1.trans (hb2.mono hb1.size)
  clear hb2 hr1
  have hr1 := HK.out _ hb1
  unfold bytesV
  go_wp2_with (with_reducible refine wpList_load_mid rfl 31 _ rfl w.heap.size 0 rfl LA _ hr1 Tryd.underlying31 rfl hi1 ?_)
  rw [← HLL.out]
  (with_reducible refine (HG.out.2.2.1 _ (HOK.out.below (HKB.out _ hb1))).mono ?_)
  rintro e w3 ⟨v, rfl, rfl, hb3⟩
  rw [HLL.out]
  replace hb1 := hb1.trans (hb3.mono hb1.size)
  clear hb3 hr1
  have hr1 := HK.out _ hb1
  unfold bytesV
  go_wp2_with fail
  have hEE : ((E : Int) != (E : Int)) = false := by simp
  have hBB : (B != B) = false := by simp
  have hr4 : w3.drew.rangeAt w.heap.size 0 LA := hr1
  refine wp_region_held_drew (S := (fun w' => w'.rangeAt w.heap.size 0 LA)) (by kernel_rfl) (by exact hr4) (fun hHeld => ?_)
  refine wpAnyH_take (i := 0) (v := .agg (LA).toArray) rfl (by kernel_rfl) (by kernel_rfl) (by kernel_rfl) (fun _ _ _ h => h) (yieldsIf_load_mid (by kernel_rfl) 31 _ rfl w.heap.size 0 rfl LA _ (fun _ h => h) Tryd.underlying31 rfl hi1) hHeld ?_
  simp only [Act.put, List.setIfInBounds_toArray, List.set_cons_zero, List.set_cons_succ, List.getElem_toArray, List.getElem_cons_succ, List.getElem_cons_zero]
  refine wpAnyH_take (i := 2) (v := .agg (LA).toArray) rfl (by kernel_rfl) (by kernel_rfl) (by kernel_rfl) (fun _ _ _ h => h) (yieldsIf_load_mid (by kernel_rfl) 31 _ rfl w.heap.size 0 rfl LA _ (fun _ h => h) Tryd.underlying31 rfl hi1) hHeld ?_
  simp only [Act.put, List.setIfInBounds_toArray, List.set_cons_zero, List.set_cons_succ, List.getElem_toArray, List.getElem_cons_succ, List.getElem_cons_zero]
  refine wpAnyH_ready (rs := [1]) (by kernel_rfl) (by simp) (AllReadyH.cons rfl (fun K hK => ?_) AllReadyH.nil)
  go_simp
  rw [← HLL.out]
  (with_reducible refine (HG.out.2.2.2.1 _ (HOK.out.below ((HKB.out _ hb1).drew))).mono ?_)
  rintro e w5 ⟨v, rfl, rfl, hb5⟩
  rw [HLL.out]
  replace hb5 := hb1.drew.trans (hb5.mono (by have := hb1.size; simpa using this))
  have hr5 := HK.out _ hb5
  refine hK.out _ _ hr5 (fun hHeld => ?_)
  clear hK K
  (try simp only [Act.put, List.setIfInBounds_toArray, List.set_cons_zero, List.set_cons_succ, List.getElem_toArray, List.getElem_cons_succ, List.getElem_cons_zero])
  refine wpAnyH_ready (rs := [3]) (by kernel_rfl) (by simp) (AllReadyH.cons rfl (fun K hK => ?_) AllReadyH.nil)
  go_simp
  rw [← HLL.out]
  (with_reducible refine (HG.out.2.2.2.2.1 _ (HOK.out.below (HKB.out _ hb5))).mono ?_)
  rintro e w6 ⟨v, rfl, rfl, hb6⟩
  rw [HLL.out]
  replace hb6 := hb5.trans (hb6.mono hb5.size)
  have hr6 := HK.out _ hb6
  refine hK.out _ _ hr6 (fun hHeld => ?_)
  clear hK K
  (try simp only [Act.put, List.setIfInBounds_toArray, List.set_cons_zero, List.set_cons_succ, List.getElem_toArray, List.getElem_cons_succ, List.getElem_cons_zero])
  refine wpAnyH_take (i := 4) (v := ?_) rfl (by kernel_rfl) (by kernel_rfl) (by kernel_rfl) (fun _ _ _ h => h) (Or.inl ⟨by kernel_rfl, ?_⟩) hHeld ?_
  rotate_left
  · (intro w' hSw; (try dsimp only at hSw); go_simp; try with_reducible rfl)
  simp only [Act.put, List.setIfInBounds_toArray, List.set_cons_zero, List.set_cons_succ, List.getElem_toArray, List.getElem_cons_succ, List.getElem_cons_zero]
  refine wpAnyH_take (i := 5) (v := ?_) rfl (by kernel_rfl) (by kernel_rfl) (by kernel_rfl) (fun _ _ _ h => h) (Or.inl ⟨by kernel_rfl, ?_⟩) hHeld ?_
  rotate_left
  · (intro w' hSw; (try dsimp only at hSw); go_simp; try with_reducible rfl)
  simp only [Act.put, List.setIfInBounds_toArray, List.set_cons_zero, List.set_cons_succ, List.getElem_toArray, List.getElem_cons_succ, List.getElem_cons_zero]
  refine wpAnyH_take (i := 6) (v := ?_) rfl (by kernel_rfl) (by kernel_rfl) (by kernel_rfl) (fun _ _ _ h => h) (Or.inl ⟨by kernel_rfl, ?_⟩) hHeld ?_
  rotate_left
  · (intro w' hSw; (try dsimp only at hSw); go_simp; try with_reducible rfl)
  simp only [Act.put, List.setIfInBounds_toArray, List.set_cons_zero, List.set_cons_succ, List.getElem_toArray, List.getElem_cons_succ, List.getElem_cons_zero]
  refine wpAnyH_take (i := 7) (v := ?_) rfl (by kernel_rfl) (by kernel_rfl) (by kernel_rfl) (fun _ _ _ h => h) (Or.inl ⟨by kernel_rfl, ?_⟩) hHeld ?_
  rotate_left
  · (intro w' hSw; (try dsimp only at hSw); go_simp; try with_reducible rfl)
  simp only [Act.put, List.setIfInBounds_toArray, List.set_cons_zero, List.set_cons_succ, List.getElem_toArray, List.getElem_cons_succ, List.getElem_cons_zero]
  refine wpAnyH_take (i := 8) (v := ?_) rfl (by kernel_rfl) (by kernel_rfl) (by kernel_rfl) (fun _ _ _ h => h) (Or.inl ⟨by kernel_rfl, ?_⟩) hHeld ?_
  rotate_left
  · (intro w' hSw; (try dsimp only at hSw); go_simp; try with_reducible rfl)
  simp only [Act.put, List.setIfInBounds_toArray, List.set_cons_zero, List.set_cons_succ, List.getElem_toArray, List.getElem_cons_succ, List.getElem_cons_zero]
  refine wpAnyH_take (i := 9) (v := ?_) rfl (by kernel_rfl) (by kernel_rfl) (by kernel_rfl) (fun _ _ _ h => h) (Or.inl ⟨by kernel_rfl, ?_⟩) hHeld ?_
  rotate_left
  · (intro w' hSw; (try dsimp only at hSw); go_simp; try with_reducible rfl)
  simp only [Act.put, List.setIfInBounds_toArray, List.set_cons_zero, List.set_cons_succ, List.getElem_toArray, List.getElem_cons_succ, List.getElem_cons_zero]
  refine wpAnyH_take (i := 10) (v := ?_) rfl (by kernel_rfl) (by kernel_rfl) (by kernel_rfl) (fun _ _ _ h => h) (Or.inl ⟨by kernel_rfl, ?_⟩) hHeld ?_
  rotate_left
  · (intro w' hSw; (try dsimp only at hSw); go_simp; try with_reducible rfl)
  simp only [Act.put, List.setIfInBounds_toArray, List.set_cons_zero, List.set_cons_succ, List.getElem_toArray, List.getElem_cons_succ, List.getElem_cons_zero]
  refine wpAnyH_take (i := 11) (v := ?_) rfl (by kernel_rfl) (by kernel_rfl) (by kernel_rfl) (fun _ _ _ h => h) (Or.inl ⟨by kernel_rfl, ?_⟩) hHeld ?_
  rotate_left
  · (intro w' hSw; (try dsimp only at hSw); go_simp; try with_reducible rfl)
  simp only [Act.put, List.setIfInBounds_toArray, List.set_cons_zero, List.set_cons_succ, List.getElem_toArray, List.getElem_cons_succ, List.getElem_cons_zero]
  refine wpAnyH_take (i := 12) (v := ?_) rfl (by kernel_rfl) (by kernel_rfl) (by kernel_rfl) (fun _ _ _ h => h) (Or.inl ⟨by kernel_rfl, ?_⟩) hHeld ?_
  rotate_left
  · (intro w' hSw; (try dsimp only at hSw); go_simp; try with_reducible rfl)
  simp only [Act.put, List.setIfInBounds_toArray, List.set_cons_zero, List.set_cons_succ, List.getElem_toArray, List.getElem_cons_succ, List.getElem_cons_zero]
  refine wpAnyH_take (i := 13) (v := ?_) rfl (by kernel_rfl) (by kernel_rfl) (by kernel_rfl) (fun _ _ _ h => h) (Or.inl ⟨by kernel_rfl, ?_⟩) hHeld ?_
  rotate_left
  · (intro w' hSw; (try dsimp only at hSw); go_simp; try with_reducible rfl)
  simp only [Act.put, List.setIfInBounds_toArray, List.set_cons_zero, List.set_cons_succ, List.getElem_toArray, List.getElem_cons_succ, List.getElem_cons_zero]
  refine wpAnyH_take (i := 14) (v := ?_) rfl (by kernel_rfl) (by kernel_rfl) (by kernel_rfl) (fun _ _ _ h => h) (Or.inl ⟨by kernel_rfl, ?_⟩) hHeld ?_
  rotate_left
  · (intro w' hSw; (try dsimp only at hSw); go_simp; try with_reducible rfl)
  simp only [Act.put, List.setIfInBounds_toArray, List.set_cons_zero, List.set_cons_succ, List.getElem_toArray, List.getElem_cons_succ, List.getElem_cons_zero]
  refine wpAnyH_done (by kernel_rfl) ?_ _
  clear hr1 hr4 hr5 hb5 hb1
  by_cases hE : E ≠ 0
  · have t1 : ((E : Int) == 0) = false := by rw [beq_eq_false_iff_ne]; omega
    have t1' : ((E : Int) != 0) = true := by unfold bne; rw [t1]; rfl
    go_wp2_with fail
    have hvz := HV.out.tab.keep (HKB.out _ hb6) (Nat.le_refl _)
    (with_reducible refine (awake44_any _ hvz).mono ?_)
    rintro e wz ⟨v, rfl, rfl, hbz⟩
    have hdz := (HKB.out _ hb6).trans (hbz.mono (HKB.out _ hb6).size)
    clear hbz
    go_wp2_with fail
    go_ret
    exact ⟨_, rfl, rfl, hdz⟩
  obtain rfl : E = 0 := by omega
  clear hE
  obtain ⟨hl1, hl2⟩ := HN.out.1 rfl
  have wg := fun W h => wget_any B W (by omega) h
  unfold GetOut at wg
  rw [HN.out.2 rfl] at wg
  have HWG := Lib.hid wg; clear wg hl1 hl2
  go_wp2_with fail
  (with_reducible refine (HWG.out _ (HV.out.keep (HKB.out _ hb6) (Nat.le_refl _))).mono ?_)
  rintro e w8 ⟨v, rfl, ⟨X1, rfl, hok1⟩, hb3⟩
  replace hb3 := hb6.trans (hb3.mono hb6.size)
  clear hb6 hr6
  (try simp only)
  (try simp only at hok1)
  have hl1 : (mgL m X1).toArray.size = 45 := by rw [List.size_toArray]; exact mgL_len hok1
  have ho1 := mgL_one m X1
  obtain ⟨L1, hL1⟩ : ∃ L, mgL m X1 = L := ⟨_, rfl⟩
  rw [hL1] at hl1 ho1 ⊢
  have H1 := Lib.hid (And.intro hL1 (And.intro hl1 (And.intro ho1 (And.intro (show (Tryd.prog.info? 31).map (·.size) = some L1.toArray.size by rw [hl1]; exact info_msg) (show (Tryd.prog.info? 31).map (·.size) = some L1.length by rw [← List.size_toArray, hl1]; exact info_msg)))))
  clear hL1 hl1 ho1
  go_upto_region 10 with (with_reducible refine wpList_store_mid rfl 31 _ _ rfl w8.heap.size 0 L1.toArray rfl rfl (there_row (heap_alloc_new _ _) (by rw [H1.out.2.1]; exact Nat.le_of_ble_eq_true rfl)) H1.out.2.2.2.1 H1.out.2.2.1 ?_)
  generalize hW : World.setCells _ _ _ _ = w9
  have hb : Below w8.heap.size w8 w9 := by rw [← hW]; exact ((Below.refl _ _).alloc (Nat.le_refl _) _).trans (Lib.below_setCells_w (Nat.le_refl _) _ _ _)
  have hr1 : w9.rangeAt w8.heap.size 0 L1 := by
    rw [← hW]
    refine World.rangeAt_setCells_same _ _ _ _ (there_row (heap_alloc_new _ _) ?_)
    rw [show L1.toArray.toList.length = 45 by have := H1.out.2.1; simpa using this]; exact Nat.le_of_ble_eq_true rfl
  clear hW
  replace hok1 := hok1.below hb
  replace hb3 := hb3.trans (hb.mono hb3.size)
  clear hb
  have hr2 := HK.out _ hb3
  obtain ⟨Q1, hQ1⟩ : ∃ h, w8.heap.size = h := ⟨_, rfl⟩
  rw [hQ1] at hr1 ⊢
  clear hQ1
  have hi2 := H1.out.2.2.2.2
  go_wp2_with (first
    | (with_reducible refine wpList_load_mid_g (by with_unfolding_all rfl) 31 _ rfl Q1 0 rfl L1 _ hr1 Tryd.underlying31 rfl hi2 ?_)
    | (with_reducible refine wpList_load_mid_g (by with_unfolding_all rfl) 31 _ rfl w.heap.size 0 rfl LA _ hr2 Tryd.underlying31 rfl hi1 ?_))
  rw [← H1.out.1, ← HLL.out]
  (with_reducible refine (HG.out.2.2.2.2.2 X1 _ hok1 (HOK.out.below (HKB.out _ hb3))).mono ?_)
  rintro e w7 ⟨v, rfl, rfl, hb7⟩
  rw [H1.out.1, HLL.out]
  replace hb7 := hb3.trans (hb7.mono hb3.size)
  clear hb3 hr1 hr2 hok1
  go_wp2_with fail
  have hvz := HV.out.tab.keep (HKB.out _ hb7) (Nat.le_refl _)
  (with_reducible refine (awake44_any _ hvz).mono ?_)
  rintro e wz ⟨v, rfl, rfl, hbz⟩
  have hdz := (HKB.out _ hb7).trans (hbz.mono (HKB.out _ hb7).size)
  clear hbz
  go_wp2_with fail
  go_ret
  exact ⟨_, rfl, rfl, hdz⟩
-- FRAME
set_option maxRecDepth 100000 in
theorem wirePuts_lifted (os : Os) (started : os.Started) (H : Type) (enc : TypeId × Value → H) :
    ReturnsInHanded {} Tryd.checked os 7 .any (fun w args => (Rows.wirePutsSpec.pre enc Tryd.prog Tryd.f7 [] false w args ∧ laidMetH Tryd.prog tabs5 w) ∧ sizedMet enc Tryd.prog Tryd.f7 (OpenSpec.ofChange Rows.wirePutsSpec) false w args) (Rows.wirePutsSpec.post enc Tryd.prog Tryd.f7 false true false false) := by
  refine returnsInHanded_of_change_and (C := Tryd.checked) (X := fun w _ => laidMetH Tryd.prog tabs5 w) (fun _ _ _ hh h => h.of_heap hh) own started (by kernel_rfl) Tryd.func7
    (ChangeSpec.witness_shaped (enc := enc) (C := Tryd.checked) (os := os) (X := fun w _ => laidMetH Tryd.prog tabs5 w) false (World.doorLaid Tryd.prog 100 os) #[msgW] 8 rfl (World.shaped_of_RefB (by kernel_rfl) (by kernel_rfl)) (by kernel_rfl) (by kernel_rfl) (by kernel_rfl) (door_met5 os _)) ?_
  intro W base args ds gs before hval0 hW hcnd hsz0 hL _
  have hvars := vnum_of5 hL
  have hval : ∀ (j : Nat) t v, Tryd.f7.params[j]? = some t → args[j]? = some v → Value.okWide Tryd.prog W .any base t v := hval0
  have hW' := hW
  obtain ⟨p, q, hA0, hV, rfl, hfz, hnd⟩ := hW
  have hA : DataW.TrodAll enc Tryd.prog W 0 (fun _ => true) true Tryd.f7.params.toList args.toList ds p := hA0
  have hsz : (DataW.weightsEach Tryd.prog (Tryd.f7.params.toList ++ Rows.wirePutsSpec.plain.varTypes Tryd.prog) (ds ++ gs)).all (· ≤ reachBytes) = true := hsz0
  rw [Tryd.params7] at hA hval hsz
  obtain ⟨v0, vs0, d0, ds0, p0, q0, hargs, rfl, rfl, h0, r0⟩ := trodAll_cons hA
  obtain ⟨rfl, rfl, rfl⟩ := trodAll_nil r0
  obtain rfl : args = #[v0] := by cases args; simp_all
  obtain ⟨rfl, rfl⟩ := trodVars_none hV
  have k0 := h0
  have lt0 : ∀ x ∈ p0, x.block < W.heap.size := by obtain ⟨m, hm⟩ := k0; exact DataW.trod_lt m _ _ _ hm
  have hz0 : ∀ m ∈ d0.weights Tryd.prog 31, m ≤ reachBytes := fun m hm => by
    have h1 := List.all_eq_true.1 hsz m (DataW.weights_mem_each (j := 0) rfl rfl m hm)
    simpa using h1
  obtain ⟨m0, X0, rfl, eA0, eB0, eC0⟩ := open_msg (hval 0 31 v0 rfl rfl) h0 hz0
  clear hA0 hval0 hsz0
  refine (wirePuts_walk m0 X0 W eA0 eB0 eC0 hvars).mono fun e W' ⟨v, he, hv, bel⟩ => ?_
  subst he hv
  exact ⟨_, rfl, _, _, _, [], _, [], hW', trodAll_mk1 (shut_bool Tryd.underlying4 _), (trodAll_cons_mk (Below.trod laidOut (by kernel_rfl) (of_decide_eq_true (by kernel_rfl)) k0 bel lt0) trodAll_mk0), rfl, bel.frame _, fun h => by cases h⟩

theorem wirePuts_row : Rows.WirePutsSaid :=
  OpenClaim.holds_of_wide 7 Tryd.f7 rfl rfl rfl rfl rfl rfl rfl ⟨rfl, rfl, rfl, rfl, rfl⟩ rfl rfl rfl rfl rfl (by kernel_rfl) Tryd.func7 (by kernel_rfl)
    (of_decide_eq_true (by kernel_rfl)) (by unfold Func.isWrapper; first | (rw [if_pos (by decide +kernel)]; kernel_rfl) | (rw [if_neg (by decide +kernel)]; exact ⟨rfl, rfl⟩))
    (fun os started H enc _ => wirePuts_lifted os started H enc)

theorem wirePuts_holds : Rows.WirePutsCardSaid :=
  Claim7.holds_tied_plain_at .later [] [.data, .data, .data, .sentinel, .sentinel] true (true, "8c7f5076b4464b0d47fcd8bd876a472c897cfef33dbc23ff4e6154515a454f93") true
    wirePuts_row (fun _ h => by cases h) (by kernel_rfl) (fun _ h => by cases h) wirePuts_row_tie rfl ⟨rfl, rfl⟩ (by kernel_rfl) rfl
    (fun f fn hf hfn => by
      obtain rfl : f = 7 := Option.some.inj ((show Tryd.prog.funcNamed "hibernacle/hibernaclelaw44.WirePuts" = some 7 by kernel_rfl).symm.trans hf) |>.symm
      obtain rfl : fn = Tryd.f7 := (Option.some.inj (Tryd.func7.symm.trans hfn)).symm
      exact ⟨by kernel_rfl, fun j t ht => by
        rw [Tryd.params7] at ht
        rcases j with _ | _ | _ | _ | j
        all_goals first
          | (simp at ht; done)
          | (have h3 := Option.some.inj ht; subst h3; exact (show Tryd.prog.wantsStandIn _ = false by kernel_rfl))⟩)
    (by kernel_rfl)
#print axioms wirePuts_holds
end Go.Proofs.YtommlolhpaeioaaDoor
