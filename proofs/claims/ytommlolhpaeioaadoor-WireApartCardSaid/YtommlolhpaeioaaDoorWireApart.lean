/- WireApart holds: two messages that may be have the same bytes just if they are one. No condition. -/
import Derived.Test.YtommlolhpaeioaaDoorLaid
import Derived.Test.YtommlolhpaeioaaDoorTie
import Derived.Test.YtommlolhpaeioaaDoorCards
import Derived.Deep.DeepHandedRow
import Derived.Deep.DeepWitnessRowRef
import Derived.Lib.LaidTab
import Derived.Test.YtommlolhpaeioaaDoorWireA
import Derived.Test.YtommlolhpaeioaaDoorWireT
import Derived.Test.YtommlolhpaeioaaDoorOpenMg
namespace Go.Proofs.YtommlolhpaeioaaDoor
open Go.ChangeShapes Go.WideShapes Go.ChangeAt Go.RowKit
set_option linter.unusedVariables false
set_option linter.unusedSimpArgs false
attribute [local go_sem] ba_get ba_cut ba_add
theorem mok_of {w : World} {m : Pl.Msg} {X : Cx} (h : SnOk w m.snap X) (hn : MgNum m) : Pl.MOk m := ⟨h.sum, hn.snap.c, hn.k, hn.n, hn.why⟩
theorem wput_empty {m : Pl.Msg} (h : Pl.wchk m ≠ 0) : (Pl.wput m).1 = [] := by rw [Pl.wput_no h]
theorem wput_err (m : Pl.Msg) : (Pl.wput m).2 = Pl.wchk m := by
  by_cases h : Pl.wchk m = 0
  · rw [Pl.wput_ok h, h]
  · rw [Pl.wput_no h]
set_option maxRecDepth 100000 in
set_option maxHeartbeats 8000000 in
theorem wireApart_walk (a : Pl.Msg) (X : Cx) (b : Pl.Msg) (Y : Cx) (w : World) (ha : SnOk w a.snap X) (fa : MgFit a) (na : MgNum a) (hb : SnOk w b.snap Y) (fb : MgFit b) (nb : MgNum b) (hv : VTab w) :
    Calls Tryd.prog 3 #[.agg (mgL a X).toArray, .agg (mgL b Y).toArray] w (RetB (fun v _ => v = .bool true) w) := by
  have ma := mok_of ha na
  have mb := mok_of hb nb
  have HSM := Lib.hid (And.intro ha.sum hb.sum)
  have HI := Lib.hid (And.intro (info_mg ha) (info_mg hb))
  have g1 := fun W h => great44_any a X W h fa
  have g2 := fun W h => great44_any b Y W h fb
  have p1 := fun W h hv => wput_any a X W h fa ma hv
  have p2 := fun W h hv => wput_any b Y W h fb mb hv
  have s0 := fun W h1 h2 => same44_any a b X Y W h1 h2 fa fb
  have hinj := fun h1 h2 => Pl.wput_inj (a := a) (b := b) h1 h2 ma mb
  have ee1 := wput_err a
  have ee2 := wput_err b
  have ne1 := fun h => wput_empty (m := a) h
  have ne2 := fun h => wput_empty (m := b) h
  obtain ⟨PA, hPA⟩ : ∃ P, Pl.wput a = P := ⟨_, rfl⟩
  obtain ⟨PB, hPB⟩ : ∃ P, Pl.wput b = P := ⟨_, rfl⟩
  obtain ⟨Q, hQ⟩ : ∃ Q, Pl.eqM a b = Q := ⟨_, rfl⟩
  rw [hPA] at p1 ee1 ne1 hinj
  rw [hPB] at p2 ee2 ne2 hinj
  rw [hQ] at s0 hinj
  obtain ⟨Ba, Ea⟩ := PA
  obtain ⟨Bb, Eb⟩ := PB
  simp only at ee1 ee2 ne1 ne2 hinj
  rw [← ee1] at ne1 hinj
  rw [← ee2] at ne2 hinj
  have HG := Lib.hid (And.intro g1 g2)
  have HP := Lib.hid (And.intro p1 (And.intro p2 s0))
  have HN := Lib.hid (And.intro hinj (And.intro ne1 ne2))
  clear g1 g2 p1 p2 s0 hinj ee1 ee2 ne1 ne2 hPA hPB hQ
  obtain ⟨LA, hLA⟩ : ∃ LA, mgL a X = LA := ⟨_, rfl⟩
  obtain ⟨LB, hLB⟩ : ∃ LB, mgL b Y = LB := ⟨_, rfl⟩
  rw [hLA, hLB]
  have HLL := Lib.hid (And.intro hLA hLB)
  go_enter Tryd.func3, Tryd.ntmps3
  go_upto_region 1 with (fail)
  generalize hV : (w.alloc _).alloc _ = V
  have hx : Mg V w.heap.size a X := by
    rw [← hV]
    exact (mg_row (w := w.alloc (.cells LA.toArray 31)) HSM.out.1 (by rw [hLA]; exact heap_alloc_new w _)).keep HSM.out.1 (B' := w.heap.size + 1) (by omega) ((Below.refl _ _).alloc (by simp) _)
  have hy : Mg V (w.heap.size + 1) b Y := by
    rw [← hV]
    exact mg_row HSM.out.2 (by rw [hLB]; exact heap_alloc_2 w _ _)
  have hbV : Below w.heap.size w V := by rw [← hV]; exact ((Below.refl _ _).alloc (Nat.le_refl _) _).alloc (by simp) _
  have hBV : w.heap.size + 1 < V.heap.size := by rw [← hV]; simp
  clear hV hLA hLB
  have HOK := Lib.hid (And.intro ha (And.intro hb hv))
  clear ha hb hv fa fb na nb ma mb
  have hr1 := hx.all
  have hr2 := hy.all
  have hi1 := HI.out.1
  have hi2 := HI.out.2
  rw [HLL.out.1] at hr1 hi1
  rw [HLL.out.2] at hr2 hi2
  have HX := Lib.hid (And.intro hx hy); clear hx hy
  have keepR : ∀ W, Below V.heap.size V W → W.rangeAt w.heap.size 0 LA ∧ W.rangeAt (w.heap.size + 1) 0 LB := fun W hb => by
    have h1 := (HX.out.1.keep HSM.out.1 (by omega) hb).all
    have h2 := (HX.out.2.keep HSM.out.2 hBV hb).all
    rw [HLL.out.1] at h1
    rw [HLL.out.2] at h2
    exact ⟨h1, h2⟩
  have HK := Lib.hid keepR
  have keepB : ∀ W, Below V.heap.size V W → Below w.heap.size w W := fun W hb => hbV.trans (hb.mono hbV.size)
  have HKB := Lib.hid keepB
  clear keepR keepB
  go_wp2_with (with_reducible refine wpList_load_mid rfl 31 _ rfl w.heap.size 0 rfl LA _ hr1 Tryd.underlying31 rfl hi1 ?_)
  rw [← HLL.out.1]
  (with_reducible refine (HG.out.1 _ (HOK.out.1.below hbV)).mono ?_)
  rintro e w1 ⟨v, rfl, hv1, hb1⟩
  rw [HLL.out.1]
  have hx1 := HK.out _ hb1
  obtain ⟨hr1', hr2'⟩ := hx1
  clear hr1 hr2
  rcases hv1 with rfl | rfl
  rotate_left
  · go_wp2_with fail
    have hvz := HOK.out.2.2.keep (HKB.out _ hb1) (Nat.le_refl _)
    (with_reducible refine (awake44_any _ hvz).mono ?_)
    rintro e wz ⟨v, rfl, rfl, hbz⟩
    have hdz := (HKB.out _ hb1).trans (hbz.mono (Nat.le_trans hbV.size hb1.size))
    clear hbz
    go_wp2_with fail
    go_ret
    exact ⟨_, rfl, rfl, hdz⟩
  go_wp2_with (with_reducible refine wpList_load_mid_g (by with_unfolding_all rfl) 31 _ rfl (w.heap.size + 1) 0 rfl LB _ hr2' Tryd.underlying31 rfl hi2 ?_)
  rw [← HLL.out.2]
  (with_reducible refine (HG.out.2 _ (HOK.out.2.1.below (HKB.out _ hb1))).mono ?_)
  rintro e w2 ⟨v, rfl, hv2, hb2⟩
  rw [HLL.out.2]
  replace hb2 := hb1.trans (hb2.mono hb1.size)
  clear hb1 hr1' hr2'
  obtain ⟨hr1, hr2⟩ := HK.out _ hb2
  rcases hv2 with rfl | rfl
  rotate_left
  · go_wp2_with fail
    have hvz := HOK.out.2.2.keep (HKB.out _ hb2) (Nat.le_refl _)
    (with_reducible refine (awake44_any _ hvz).mono ?_)
    rintro e wz ⟨v, rfl, rfl, hbz⟩
    have hdz := (HKB.out _ hb2).trans (hbz.mono (Nat.le_trans hbV.size hb2.size))
    clear hbz
    go_wp2_with fail
    go_ret
    exact ⟨_, rfl, rfl, hdz⟩
  go_wp2_with (with_reducible refine wpList_load_mid rfl 31 _ rfl w.heap.size 0 rfl LA _ hr1 Tryd.underlying31 rfl hi1 ?_)
  rw [← HLL.out.1]
  (with_reducible refine (HP.out.1 _ (HOK.out.1.below (HKB.out _ hb2)) (HOK.out.2.2.keep (HKB.out _ hb2) (Nat.le_refl _))).mono ?_)
  rintro e w3 ⟨v, rfl, rfl, hb3⟩
  rw [HLL.out.1]
  replace hb3 := hb2.trans (hb3.mono hb2.size)
  clear hb2 hr1 hr2
  obtain ⟨hr1, hr2⟩ := HK.out _ hb3
  unfold bytesV
  go_wp2_with (with_reducible refine wpList_load_mid rfl 31 _ rfl (w.heap.size + 1) 0 rfl LB _ hr2 Tryd.underlying31 rfl hi2 ?_)
  rw [← HLL.out.2]
  (with_reducible refine (HP.out.2.1 _ (HOK.out.2.1.below (HKB.out _ hb3)) (HOK.out.2.2.keep (HKB.out _ hb3) (Nat.le_refl _))).mono ?_)
  rintro e w4 ⟨v, rfl, rfl, hb4⟩
  rw [HLL.out.2]
  replace hb4 := hb3.trans (hb4.mono hb3.size)
  clear hb3 hr1 hr2
  obtain ⟨hr1, hr2⟩ := HK.out _ hb4
  unfold bytesV
  by_cases hEa : Ea = 0
  rotate_left
  · have t1 : ((Ea : Int) == 0) = false := by rw [beq_eq_false_iff_ne]; omega
    obtain rfl : Ba = [] := HN.out.2.1 hEa
    by_cases hEb : Eb = 0
    · subst hEb
      go_wp2_with fail
      have hvz := HOK.out.2.2.keep (HKB.out _ hb4) (Nat.le_refl _)
      (with_reducible refine (awake44_any _ hvz).mono ?_)
      rintro e wz ⟨v, rfl, rfl, hbz⟩
      have hdz := (HKB.out _ hb4).trans (hbz.mono (Nat.le_trans hbV.size hb4.size))
      clear hbz
      go_wp2_with fail
      go_ret
      exact ⟨_, rfl, rfl, hdz⟩
    · have t2 : ((Eb : Int) == 0) = false := by rw [beq_eq_false_iff_ne]; omega
      obtain rfl : Bb = [] := HN.out.2.2 hEb
      go_wp2_with fail
      have hvz := HOK.out.2.2.keep (HKB.out _ hb4) (Nat.le_refl _)
      (with_reducible refine (awake44_any _ hvz).mono ?_)
      rintro e wz ⟨v, rfl, rfl, hbz⟩
      have hdz := (HKB.out _ hb4).trans (hbz.mono (Nat.le_trans hbV.size hb4.size))
      clear hbz
      go_wp2_with fail
      go_ret
      exact ⟨_, rfl, rfl, hdz⟩
  subst hEa
  by_cases hEb : Eb = 0
  rotate_left
  · have t2 : ((Eb : Int) == 0) = false := by rw [beq_eq_false_iff_ne]; omega
    obtain rfl : Bb = [] := HN.out.2.2 hEb
    go_wp2_with fail
    have hvz := HOK.out.2.2.keep (HKB.out _ hb4) (Nat.le_refl _)
    (with_reducible refine (awake44_any _ hvz).mono ?_)
    rintro e wz ⟨v, rfl, rfl, hbz⟩
    have hdz := (HKB.out _ hb4).trans (hbz.mono (Nat.le_trans hbV.size hb4.size))
    clear hbz
    go_wp2_with fail
    go_ret
    exact ⟨_, rfl, rfl, hdz⟩
  subst hEb
  have hq := HN.out.1 rfl rfl
  have t : (Ba == Bb) = Q := by rw [← hq, Bool.eq_iff_iff]; simp
  have HT := Lib.hid t; clear hq t
  go_wp2_with (first
    | (with_reducible refine wpList_load_mid rfl 31 _ rfl w.heap.size 0 rfl LA _ hr1 Tryd.underlying31 rfl hi1 ?_)
    | (with_reducible refine wpList_load_mid rfl 31 _ rfl (w.heap.size + 1) 0 rfl LB _ hr2 Tryd.underlying31 rfl hi2 ?_))
  rw [← HLL.out.1, ← HLL.out.2]
  (with_reducible refine (HP.out.2.2 _ (HOK.out.1.below (HKB.out _ hb4)) (HOK.out.2.1.below (HKB.out _ hb4))).mono ?_)
  rintro e w5 ⟨v, rfl, rfl, hb5⟩
  replace hb5 := hb4.trans (hb5.mono hb4.size)
  clear hb4 hr1 hr2
  rw [HLL.out.1, HLL.out.2]
  rw [HT.out]
  have t : (Q == Q) = true := by simp
  go_wp2_with fail
  have hvz := HOK.out.2.2.keep (HKB.out _ hb5) (Nat.le_refl _)
  (with_reducible refine (awake44_any _ hvz).mono ?_)
  rintro e wz ⟨v, rfl, rfl, hbz⟩
  have hdz := (HKB.out _ hb5).trans (hbz.mono (Nat.le_trans hbV.size hb5.size))
  clear hbz
  go_wp2_with fail
  go_ret
  exact ⟨_, rfl, rfl, hdz⟩
-- FRAME
set_option maxRecDepth 100000 in
theorem wireApart_lifted (os : Os) (started : os.Started) (H : Type) (enc : TypeId × Value → H) :
    ReturnsInHanded {} Tryd.checked os 3 .any (fun w args => (Rows.wireApartSpec.pre enc Tryd.prog Tryd.f3 [] false w args ∧ laidMetH Tryd.prog tabs3 w) ∧ sizedMet enc Tryd.prog Tryd.f3 (OpenSpec.ofChange Rows.wireApartSpec) false w args) (Rows.wireApartSpec.post enc Tryd.prog Tryd.f3 false true false false) := by
  refine returnsInHanded_of_change_and (C := Tryd.checked) (X := fun w _ => laidMetH Tryd.prog tabs3 w) (fun _ _ _ hh h => h.of_heap hh) own started (by kernel_rfl) Tryd.func3
    (ChangeSpec.witness_shaped (enc := enc) (C := Tryd.checked) (os := os) (X := fun w _ => laidMetH Tryd.prog tabs3 w) false (World.doorLaid Tryd.prog 100 os) #[msgW, msgW] 8 rfl (World.shaped_of_RefB (by kernel_rfl) (by kernel_rfl)) (by kernel_rfl) (by kernel_rfl) (by kernel_rfl) (door_met3 os _)) ?_
  intro W base args ds gs before hval0 hW hcnd hsz0 hL _
  have hvars := vtab_of3 hL
  have hval : ∀ (j : Nat) t v, Tryd.f3.params[j]? = some t → args[j]? = some v → Value.okWide Tryd.prog W .any base t v := hval0
  have hW' := hW
  obtain ⟨p, q, hA0, hV, rfl, hfz, hnd⟩ := hW
  have hA : DataW.TrodAll enc Tryd.prog W 0 (fun _ => true) true Tryd.f3.params.toList args.toList ds p := hA0
  have hsz : (DataW.weightsEach Tryd.prog (Tryd.f3.params.toList ++ Rows.wireApartSpec.plain.varTypes Tryd.prog) (ds ++ gs)).all (· ≤ reachBytes) = true := hsz0
  rw [Tryd.params3] at hA hval hsz
  obtain ⟨v0, vs0, d0, ds0, p0, q0, hargs, rfl, rfl, h0, r0⟩ := trodAll_cons hA
  obtain ⟨v1, vs1, d1, ds1, p1, q1, rfl, rfl, rfl, h1, r1⟩ := trodAll_cons r0
  obtain ⟨rfl, rfl, rfl⟩ := trodAll_nil r1
  obtain rfl : args = #[v0, v1] := by cases args; simp_all
  obtain ⟨rfl, rfl⟩ := trodVars_none hV
  have k0 := h0
  have lt0 : ∀ x ∈ p0, x.block < W.heap.size := by obtain ⟨m, hm⟩ := k0; exact DataW.trod_lt m _ _ _ hm
  have hz0 : ∀ m ∈ d0.weights Tryd.prog 31, m ≤ reachBytes := fun m hm => by
    have h1 := List.all_eq_true.1 hsz m (DataW.weights_mem_each (j := 0) rfl rfl m hm)
    simpa using h1
  obtain ⟨m0, X0, rfl, eA0, eB0, eC0⟩ := open_msg (hval 0 31 v0 rfl rfl) h0 hz0
  have k1 := h1
  have lt1 : ∀ x ∈ p1, x.block < W.heap.size := by obtain ⟨m, hm⟩ := k1; exact DataW.trod_lt m _ _ _ hm
  have hz1 : ∀ m ∈ d1.weights Tryd.prog 31, m ≤ reachBytes := fun m hm => by
    have h1 := List.all_eq_true.1 hsz m (DataW.weights_mem_each (j := 1) rfl rfl m hm)
    simpa using h1
  obtain ⟨m1, X1, rfl, eA1, eB1, eC1⟩ := open_msg (hval 1 31 v1 rfl rfl) h1 hz1
  clear hA0 hval0 hsz0
  refine (wireApart_walk m0 X0 m1 X1 W eA0 eB0 eC0 eA1 eB1 eC1 hvars).mono fun e W' ⟨v, he, hv, bel⟩ => ?_
  subst he hv
  exact ⟨_, rfl, _, _, _, [], _, [], hW', trodAll_mk1 (shut_bool Tryd.underlying4 _), (trodAll_cons_mk (Below.trod laidOut (by kernel_rfl) (of_decide_eq_true (by kernel_rfl)) k0 bel lt0) (trodAll_cons_mk (Below.trod laidOut (by kernel_rfl) (of_decide_eq_true (by kernel_rfl)) k1 bel lt1) trodAll_mk0)), rfl, bel.frame _, fun h => by cases h⟩

theorem wireApart_row : Rows.WireApartSaid :=
  OpenClaim.holds_of_wide 3 Tryd.f3 rfl rfl rfl rfl rfl rfl rfl ⟨rfl, rfl, rfl, rfl, rfl⟩ rfl rfl rfl rfl rfl (by kernel_rfl) Tryd.func3 (by kernel_rfl)
    (of_decide_eq_true (by kernel_rfl)) (by unfold Func.isWrapper; first | (rw [if_pos (by decide +kernel)]; kernel_rfl) | (rw [if_neg (by decide +kernel)]; exact ⟨rfl, rfl⟩))
    (fun os started H enc _ => wireApart_lifted os started H enc)

theorem wireApart_holds : Rows.WireApartCardSaid :=
  Claim7.holds_tied_plain_at .later [] [.data, .data, .data] true (true, "8c7f5076b4464b0d47fcd8bd876a472c897cfef33dbc23ff4e6154515a454f93") true
    wireApart_row (fun _ h => by cases h) (by kernel_rfl) (fun _ h => by cases h) wireApart_row_tie rfl ⟨rfl, rfl⟩ (by kernel_rfl) rfl
    (fun f fn hf hfn => by
      obtain rfl : f = 3 := Option.some.inj ((show Tryd.prog.funcNamed "hibernacle/hibernaclelaw44.WireApart" = some 3 by kernel_rfl).symm.trans hf) |>.symm
      obtain rfl : fn = Tryd.f3 := (Option.some.inj (Tryd.func3.symm.trans hfn)).symm
      exact ⟨by kernel_rfl, fun j t ht => by
        rw [Tryd.params3] at ht
        rcases j with _ | _ | _ | _ | j
        all_goals first
          | (simp at ht; done)
          | (have h3 := Option.some.inj ht; subst h3; exact (show Tryd.prog.wantsStandIn _ = false by kernel_rfl))⟩)
    (by kernel_rfl)
#print axioms wireApart_holds
end Go.Proofs.YtommlolhpaeioaaDoor
