/- ManifestBack holds: a snapshot that may be is read out of its bytes; two have the same bytes just if they are one. No condition. -/
import Derived.Test.YtommlolhpaeioaaDoorLaid
import Derived.Test.YtommlolhpaeioaaDoorTie
import Derived.Test.YtommlolhpaeioaaDoorCards
import Derived.Deep.DeepHandedRow
import Derived.Deep.DeepWitnessRowRef
import Derived.Lib.LaidTab
import Derived.Test.YtommlolhpaeioaaDoorOfA
import Derived.Test.YtommlolhpaeioaaDoorMf4W
import Derived.Test.YtommlolhpaeioaaDoorOpenSn
import Derived.Test.YtommlolhpaeioaaDoorMfPl2
namespace Go.Proofs.YtommlolhpaeioaaDoor
open Go.ChangeShapes Go.WideShapes Go.ChangeAt Go.RowKit
set_option linter.unusedVariables false
set_option linter.unusedSimpArgs false
attribute [local go_sem] ba_get ba_cut ba_add
set_option maxRecDepth 100000 in
set_option maxHeartbeats 8000000 in
theorem manifestBack_walk (a : Pl.Snap) (X : Cx) (b : Pl.Snap) (Y : Cx) (w : World) (ha : SnOk w a X) (fa : SnFit a) (na : SnNum a) (hb : SnOk w b Y) (fb : SnFit b) (nb : SnNum b) (hv : VNum w) :
    Calls Tryd.prog 11 #[.agg (snL a X).toArray, .agg (snL b Y).toArray] w (RetB (fun v _ => v = .bool true) w) := by
  have hal := fun W h => alive41_any W h
  have g1 := fun W h => great41_any a X W h fa
  have g2 := fun W h => great41_any b Y W h fb
  have p1 := fun W h hv => mbytes_any a X W h fa na.c hv
  have p2 := fun W h hv => mbytes_any b Y W h fb nb.c hv
  have s0 := fun W h1 h2 => same41_any a b X Y W h1 h2 fa fb
  have s1 := fun X' W h1 h2 => same41_any a a X' X W h1 h2 fa fa
  have hbsh : Pl.mchk a = 0 → (Pl.mbytes a).1.length ≤ 704011 := fun h => Pl.mbytes_short h ha.sum
  have hof := fun h : Pl.mchk a = 0 => Pl.mof_sheet h ha.sum na.c
  have hinj := fun h1 h2 => Pl.mbytes_inj (a := a) (b := b) h1 h2 ha.sum hb.sum na.c nb.c
  have ee1 : (Pl.mbytes a).2 = Pl.mchk a := by
    by_cases h : Pl.mchk a = 0
    · rw [Pl.mbytes_ok h, h]
    · rw [Pl.mbytes_no h]
  have ee2 : (Pl.mbytes b).2 = Pl.mchk b := by
    by_cases h : Pl.mchk b = 0
    · rw [Pl.mbytes_ok h, h]
    · rw [Pl.mbytes_no h]
  have ne1 : Pl.mchk a ≠ 0 → (Pl.mbytes a).1 = [] := fun h => by rw [Pl.mbytes_no h]
  have ne2 : Pl.mchk b ≠ 0 → (Pl.mbytes b).1 = [] := fun h => by rw [Pl.mbytes_no h]
  have haa : Pl.eqS a a = true := (Pl.eqS_iff a a).2 rfl
  rw [haa] at s1
  obtain ⟨PA, hPA⟩ : ∃ P, Pl.mbytes a = P := ⟨_, rfl⟩
  obtain ⟨PB, hPB⟩ : ∃ P, Pl.mbytes b = P := ⟨_, rfl⟩
  obtain ⟨Q, hQ⟩ : ∃ Q, Pl.eqS a b = Q := ⟨_, rfl⟩
  rw [hPA] at p1 ee1 ne1 hinj hbsh hof
  rw [hPB] at p2 ee2 ne2 hinj
  rw [hQ] at s0 hinj
  obtain ⟨Ba, Ea⟩ := PA
  obtain ⟨Bb, Eb⟩ := PB
  simp only at ee1 ee2 ne1 ne2 hinj hbsh hof
  rw [← ee1] at ne1 hinj hbsh hof
  rw [← ee2] at ne2 hinj
  have HG := Lib.hid (And.intro hal (And.intro g1 g2))
  have HP := Lib.hid (And.intro p1 (And.intro p2 (And.intro s0 s1)))
  have HN := Lib.hid (And.intro hinj (And.intro ne1 (And.intro ne2 (And.intro hbsh hof))))
  have HI := Lib.hid (And.intro (info_sn ha) (And.intro (info_sn hb) info_snap))
  clear hal g1 g2 p1 p2 s0 s1 hinj ee1 ee2 ne1 ne2 hPA hPB hQ hbsh hof haa
  obtain ⟨LA, hLA⟩ : ∃ LA, snL a X = LA := ⟨_, rfl⟩
  obtain ⟨LB, hLB⟩ : ∃ LB, snL b Y = LB := ⟨_, rfl⟩
  rw [hLA, hLB]
  have HLL := Lib.hid (And.intro hLA hLB)
  go_enter Tryd.func11, Tryd.ntmps11
  go_upto_region 1 with (fail)
  generalize hV : (w.alloc _).alloc _ = V
  have hx : SnAt V w.heap.size 0 a X := by rw [← hV, ← hLA]; exact (snAt_new w a X).below (by simp) ((Below.refl _ _).alloc (Nat.le_refl _) _)
  have hy : SnAt V (w.heap.size + 1) 0 b Y := by
    rw [← hV, ← hLB]
    have := snAt_new (w.alloc (.cells LA.toArray 28)) b Y
    simpa using this
  have hbV : Below w.heap.size w V := by rw [← hV]; exact ((Below.refl _ _).alloc (Nat.le_refl _) _).alloc (by simp) _
  have hBV : w.heap.size + 1 < V.heap.size := by rw [← hV]; simp
  have HOK := Lib.hid (And.intro ha (And.intro hb hv))
  clear hV hLA hLB ha hb hv fa fb na nb
  have hi1 := HI.out.1
  have hi2 := HI.out.2.1
  rw [HLL.out.1] at hi1
  rw [HLL.out.2] at hi2
  have HX := Lib.hid (And.intro hx hy); clear hx hy
  have keepR : ∀ W, Below V.heap.size V W → W.rangeAt w.heap.size 0 LA ∧ W.rangeAt (w.heap.size + 1) 0 LB := fun W hb => by
    have h1 := snAt_range (HX.out.1.below (by omega) hb)
    have h2 := snAt_range (HX.out.2.below hBV hb)
    rw [HLL.out.1] at h1
    rw [HLL.out.2] at h2
    exact ⟨h1, h2⟩
  have HK := Lib.hid keepR
  have HKB := Lib.hid (show ∀ W, Below V.heap.size V W → Below w.heap.size w W from fun W hb => hbV.trans (hb.mono hbV.size))
  clear keepR
  go_wp2_with fail
  (with_reducible refine (HG.out.1 _ (HOK.out.2.2.tab.keep hbV (Nat.le_refl _))).mono ?_)
  rintro e w0 ⟨v, rfl, rfl, hb0⟩
  obtain ⟨hr1, hr2⟩ := HK.out _ hb0
  go_wp2_with (with_reducible refine wpList_load_mid rfl 28 _ rfl w.heap.size 0 rfl LA _ hr1 Tryd.underlying28 rfl hi1 ?_)
  rw [← HLL.out.1]
  (with_reducible refine (HG.out.2.1 _ (HOK.out.1.below (HKB.out _ hb0))).mono ?_)
  rintro e w1 ⟨v, rfl, rfl, hb1⟩
  rw [HLL.out.1]
  replace hb1 := hb0.trans (hb1.mono hb0.size)
  clear hb0 hr1 hr2
  obtain ⟨hr1, hr2⟩ := HK.out _ hb1
  by_cases hg1 : 10000 < Pl.greatN a
  · rw [if_pos hg1]
    go_wp2_with fail
    go_ret
    exact ⟨_, rfl, rfl, HKB.out _ hb1⟩
  rw [if_neg hg1]
  go_wp2_with (with_reducible refine wpList_load_mid_g (by with_unfolding_all rfl) 28 _ rfl (w.heap.size + 1) 0 rfl LB _ hr2 Tryd.underlying28 rfl hi2 ?_)
  rw [← HLL.out.2]
  (with_reducible refine (HG.out.2.2 _ (HOK.out.2.1.below (HKB.out _ hb1))).mono ?_)
  rintro e w2 ⟨v, rfl, rfl, hb2⟩
  rw [HLL.out.2]
  replace hb2 := hb1.trans (hb2.mono hb1.size)
  clear hb1 hr1 hr2
  obtain ⟨hr1, hr2⟩ := HK.out _ hb2
  by_cases hg2 : 10000 < Pl.greatN b
  · rw [if_pos hg2]
    go_wp2_with fail
    go_ret
    exact ⟨_, rfl, rfl, HKB.out _ hb2⟩
  rw [if_neg hg2]
  clear hg1 hg2
  go_wp2_with (with_reducible refine wpList_load_mid rfl 28 _ rfl w.heap.size 0 rfl LA _ hr1 Tryd.underlying28 rfl hi1 ?_)
  rw [← HLL.out.1]
  (with_reducible refine (HP.out.1 _ (HOK.out.1.below (HKB.out _ hb2)) (HOK.out.2.2.tab.keep (HKB.out _ hb2) (Nat.le_refl _))).mono ?_)
  rintro e w3 ⟨v, rfl, rfl, hb3⟩
  rw [HLL.out.1]
  replace hb3 := hb2.trans (hb3.mono hb2.size)
  clear hb2 hr1 hr2
  obtain ⟨hr1, hr2⟩ := HK.out _ hb3
  unfold bytesV
  go_wp2_with (with_reducible refine wpList_load_mid rfl 28 _ rfl (w.heap.size + 1) 0 rfl LB _ hr2 Tryd.underlying28 rfl hi2 ?_)
  rw [← HLL.out.2]
  (with_reducible refine (HP.out.2.1 _ (HOK.out.2.1.below (HKB.out _ hb3)) (HOK.out.2.2.tab.keep (HKB.out _ hb3) (Nat.le_refl _))).mono ?_)
  rintro e w4 ⟨v, rfl, rfl, hb4⟩
  rw [HLL.out.2]
  replace hb4 := hb3.trans (hb4.mono hb3.size)
  clear hb3 hr1 hr2
  obtain ⟨hr1, hr2⟩ := HK.out _ hb4
  unfold bytesV
  by_cases hEa : Ea = 0
  rotate_left
  · have t1 : ((Ea : Int) == 0) = false := by rw [beq_eq_false_iff_ne]; omega
    have t1' : ((Ea : Int) != 0) = true := by unfold bne; rw [t1]; rfl
    obtain rfl : Ba = [] := HN.out.2.1 hEa
    go_wp2_with fail
    go_ret
    exact ⟨_, rfl, rfl, HKB.out _ hb4⟩
  subst hEa
  by_cases hEb : Eb = 0
  rotate_left
  · have t2 : ((Eb : Int) == 0) = false := by rw [beq_eq_false_iff_ne]; omega
    have t2' : ((Eb : Int) != 0) = true := by unfold bne; rw [t2]; rfl
    obtain rfl : Bb = [] := HN.out.2.2.1 hEb
    go_wp2_with fail
    go_ret
    exact ⟨_, rfl, rfl, HKB.out _ hb4⟩
  subst hEb
  have hbl := HN.out.2.2.2.1 rfl
  have hof := HN.out.2.2.2.2 rfl
  go_wp2_with fail
  (with_reducible refine (mfof_any Ba _ (by omega) (HOK.out.2.2.keep (HKB.out _ hb4) (Nat.le_refl _))).mono ?_)
  rintro e w5 ⟨v, rfl, ⟨X', rfl, hok5, -⟩, hb5⟩
  rw [hof] at hok5 ⊢
  replace hb5 := hb4.trans (hb5.mono hb4.size)
  clear hb4 hr1 hr2 hof
  have hlc : (snL a X').length = 41 := snL_len hok5
  have hoc : (snL a X').toArray.all (·.oneCell') = true := all_oneCell_toArray (snL_one _ _)
  obtain ⟨LC, hLC⟩ : ∃ L, snL a X' = L := ⟨_, rfl⟩
  simp only
  rw [hLC] at hlc hoc ⊢
  have hic : (Tryd.prog.info? 28).map (·.size) = some LC.toArray.size := by rw [List.size_toArray, hlc]; exact info_snap
  have HC := Lib.hid (And.intro hLC (And.intro hlc (And.intro hoc hic))); clear hLC hlc hoc hic
  go_upto_region 10 with (with_reducible refine wpList_store_mid rfl 28 _ _ rfl w5.heap.size 0 LC.toArray rfl rfl (there_row (heap_alloc_new _ _) (by rw [List.size_toArray, HC.out.2.1]; exact Nat.le_of_ble_eq_true rfl)) HC.out.2.2.2 HC.out.2.2.1 ?_)
  generalize hW6 : World.setCells _ _ _ _ = w6
  have hb6 : Below w5.heap.size w5 w6 := by rw [← hW6]; exact ((Below.refl _ _).alloc (Nat.le_refl _) _).trans (Lib.below_setCells_w (Nat.le_refl _) _ _ _)
  have hr3 : w6.rangeAt w5.heap.size 0 LC := by
    rw [← hW6]
    refine World.rangeAt_setCells_same _ _ _ _ (there_row (heap_alloc_new _ _) ?_)
    rw [HC.out.2.1]; exact Nat.le_of_ble_eq_true rfl
  have hok6 := SnOk.below hok5 hb6
  have hb6' := hb5.trans (hb6.mono hb5.size)
  clear hW6 hok5 hb5 hb6
  obtain ⟨hr1, hr2⟩ := HK.out _ hb6'
  have hi3 : (Tryd.prog.info? 28).map (·.size) = some LC.length := by rw [HC.out.2.1]; exact info_snap
  obtain ⟨HB, hHB⟩ : ∃ h, w5.heap.size = h := ⟨_, rfl⟩
  rw [hHB] at hr3 ⊢
  clear hHB
  go_wp2_with (first
    | (with_reducible refine wpList_load_mid_g (by with_unfolding_all rfl) 28 _ rfl HB 0 rfl LC _ hr3 Tryd.underlying28 rfl hi3 ?_)
    | (with_reducible refine wpList_load_mid_g (by with_unfolding_all rfl) 28 _ rfl w.heap.size 0 rfl LA _ hr1 Tryd.underlying28 rfl hi1 ?_))
  rw [← HC.out.1, ← HLL.out.1]
  (with_reducible refine (HP.out.2.2.2 X' _ hok6 (HOK.out.1.below (HKB.out _ hb6'))).mono ?_)
  rintro e w7 ⟨v, rfl, rfl, hb7⟩
  rw [HC.out.1, HLL.out.1]
  replace hb7 := hb6'.trans (hb7.mono hb6'.size)
  clear hb6' hr1 hr2 hr3 hok6
  obtain ⟨hr1, hr2⟩ := HK.out _ hb7
  have hq := HN.out.1 trivial trivial
  have t : (Ba == Bb) = Q := by rw [← hq, Bool.eq_iff_iff]; simp
  have HT := Lib.hid t; clear hq t
  go_wp2_with (first
    | (with_reducible refine wpList_load_mid_g (by with_unfolding_all rfl) 28 _ rfl w.heap.size 0 rfl LA _ hr1 Tryd.underlying28 rfl hi1 ?_)
    | (with_reducible refine wpList_load_mid_g (by with_unfolding_all rfl) 28 _ rfl (w.heap.size + 1) 0 rfl LB _ hr2 Tryd.underlying28 rfl hi2 ?_))
  rw [← HLL.out.1, ← HLL.out.2]
  (with_reducible refine (HP.out.2.2.1 _ (HOK.out.1.below (HKB.out _ hb7)) (HOK.out.2.1.below (HKB.out _ hb7))).mono ?_)
  rintro e w8 ⟨v, rfl, rfl, hb8⟩
  replace hb8 := hb7.trans (hb8.mono hb7.size)
  rw [HT.out]
  have t : (Q == Q) = true := by simp
  go_wp2_with fail
  go_ret
  exact ⟨_, rfl, rfl, HKB.out _ hb8⟩
-- FRAME
set_option maxRecDepth 100000 in
theorem manifestBack_lifted (os : Os) (started : os.Started) (H : Type) (enc : TypeId × Value → H) :
    ReturnsInHanded {} Tryd.checked os 11 .any (fun w args => (Rows.manifestBackSpec.pre enc Tryd.prog Tryd.f11 [] false w args ∧ laidMetH Tryd.prog tabs5 w) ∧ sizedMet enc Tryd.prog Tryd.f11 (OpenSpec.ofChange Rows.manifestBackSpec) false w args) (Rows.manifestBackSpec.post enc Tryd.prog Tryd.f11 false true false false) := by
  refine returnsInHanded_of_change_and (C := Tryd.checked) (X := fun w _ => laidMetH Tryd.prog tabs5 w) (fun _ _ _ hh h => h.of_heap hh) own started (by kernel_rfl) Tryd.func11
    (ChangeSpec.witness_shaped (enc := enc) (C := Tryd.checked) (os := os) (X := fun w _ => laidMetH Tryd.prog tabs5 w) false (World.doorLaid Tryd.prog 100 os) #[snapW, snapW] 8 rfl (World.shaped_of_RefB (by kernel_rfl) (by kernel_rfl)) (by kernel_rfl) (by kernel_rfl) (by kernel_rfl) (door_met5 os _)) ?_
  intro W base args ds gs before hval0 hW hcnd hsz0 hL _
  have hvars := vnum_of5 hL
  have hval : ∀ (j : Nat) t v, Tryd.f11.params[j]? = some t → args[j]? = some v → Value.okWide Tryd.prog W .any base t v := hval0
  have hW' := hW
  obtain ⟨p, q, hA0, hV, rfl, hfz, hnd⟩ := hW
  have hA : DataW.TrodAll enc Tryd.prog W 0 (fun _ => true) true Tryd.f11.params.toList args.toList ds p := hA0
  have hsz : (DataW.weightsEach Tryd.prog (Tryd.f11.params.toList ++ Rows.manifestBackSpec.plain.varTypes Tryd.prog) (ds ++ gs)).all (· ≤ reachBytes) = true := hsz0
  rw [Tryd.params11] at hA hval hsz
  obtain ⟨v0, vs0, d0, ds0, p0, q0, hargs, rfl, rfl, h0, r0⟩ := trodAll_cons hA
  obtain ⟨v1, vs1, d1, ds1, p1, q1, rfl, rfl, rfl, h1, r1⟩ := trodAll_cons r0
  obtain ⟨rfl, rfl, rfl⟩ := trodAll_nil r1
  obtain rfl : args = #[v0, v1] := by cases args; simp_all
  obtain ⟨rfl, rfl⟩ := trodVars_none hV
  have k0 := h0
  have lt0 : ∀ x ∈ p0, x.block < W.heap.size := by obtain ⟨m, hm⟩ := k0; exact DataW.trod_lt m _ _ _ hm
  have hz0 : ∀ m ∈ d0.weights Tryd.prog 28, m ≤ reachBytes := fun m hm => by
    have h1 := List.all_eq_true.1 hsz m (DataW.weights_mem_each (j := 0) rfl rfl m hm)
    simpa using h1
  obtain ⟨s0, X0, rfl, eA0, eB0, eC0, eD0⟩ := open_snap (hval 0 28 v0 rfl rfl) h0 hz0
  have k1 := h1
  have lt1 : ∀ x ∈ p1, x.block < W.heap.size := by obtain ⟨m, hm⟩ := k1; exact DataW.trod_lt m _ _ _ hm
  have hz1 : ∀ m ∈ d1.weights Tryd.prog 28, m ≤ reachBytes := fun m hm => by
    have h1 := List.all_eq_true.1 hsz m (DataW.weights_mem_each (j := 1) rfl rfl m hm)
    simpa using h1
  obtain ⟨s1, X1, rfl, eA1, eB1, eC1, eD1⟩ := open_snap (hval 1 28 v1 rfl rfl) h1 hz1
  clear hA0 hval0 hsz0
  refine (manifestBack_walk s0 X0 s1 X1 W eA0 eB0 eC0 eA1 eB1 eC1 hvars).mono fun e W' ⟨v, he, hv, bel⟩ => ?_
  subst he hv
  exact ⟨_, rfl, _, _, _, [], _, [], hW', trodAll_mk1 (shut_bool Tryd.underlying4 _), (trodAll_cons_mk (Below.trod laidOut (by kernel_rfl) (of_decide_eq_true (by kernel_rfl)) k0 bel lt0) (trodAll_cons_mk (Below.trod laidOut (by kernel_rfl) (of_decide_eq_true (by kernel_rfl)) k1 bel lt1) trodAll_mk0)), rfl, bel.frame _, fun h => by cases h⟩

theorem manifestBack_row : Rows.ManifestBackSaid :=
  OpenClaim.holds_of_wide 11 Tryd.f11 rfl rfl rfl rfl rfl rfl rfl ⟨rfl, rfl, rfl, rfl, rfl⟩ rfl rfl rfl rfl rfl (by kernel_rfl) Tryd.func11 (by kernel_rfl)
    (of_decide_eq_true (by kernel_rfl)) (by unfold Func.isWrapper; first | (rw [if_pos (by decide +kernel)]; kernel_rfl) | (rw [if_neg (by decide +kernel)]; exact ⟨rfl, rfl⟩))
    (fun os started H enc _ => manifestBack_lifted os started H enc)

theorem manifestBack_holds : Rows.ManifestBackCardSaid :=
  Claim7.holds_tied_plain_at .later [] [.data, .data, .data, .sentinel, .sentinel] true (true, "8c7f5076b4464b0d47fcd8bd876a472c897cfef33dbc23ff4e6154515a454f93") true
    manifestBack_row (fun _ h => by cases h) (by kernel_rfl) (fun _ h => by cases h) manifestBack_row_tie rfl ⟨rfl, rfl⟩ (by kernel_rfl) rfl
    (fun f fn hf hfn => by
      obtain rfl : f = 11 := Option.some.inj ((show Tryd.prog.funcNamed "hibernacle/hibernaclelaw41.ManifestBack" = some 11 by kernel_rfl).symm.trans hf) |>.symm
      obtain rfl : fn = Tryd.f11 := (Option.some.inj (Tryd.func11.symm.trans hfn)).symm
      exact ⟨by kernel_rfl, fun j t ht => by
        rw [Tryd.params11] at ht
        rcases j with _ | _ | _ | _ | j
        all_goals first
          | (simp at ht; done)
          | (have h3 := Option.some.inj ht; subst h3; exact (show Tryd.prog.wantsStandIn _ = false by kernel_rfl))⟩)
    (by kernel_rfl)
#print axioms manifestBack_holds
end Go.Proofs.YtommlolhpaeioaaDoor
