/- WireGets holds: the message of any bytes, or that they are none's, is the document's; it has just these bytes. No condition. -/
import Derived.Test.YtommlolhpaeioaaDoorLaid
import Derived.Test.YtommlolhpaeioaaDoorTie
import Derived.Test.YtommlolhpaeioaaDoorCards
import Derived.Deep.DeepHandedRow
import Derived.Deep.DeepWitnessRowRef
import Derived.Lib.LaidTab
import Derived.Test.YtommlolhpaeioaaDoorRefG
import Derived.Test.YtommlolhpaeioaaDoorWireK
import Derived.Test.YtommlolhpaeioaaDoorWireS
import Derived.Test.YtommlolhpaeioaaDoorOpen
namespace Go.Proofs.YtommlolhpaeioaaDoor
open Go.ChangeShapes Go.WideShapes Go.ChangeAt Go.RowKit
set_option linter.unusedVariables false
set_option linter.unusedSimpArgs false
attribute [local go_sem] ba_get ba_cut ba_add
set_option maxRecDepth 100000 in
set_option maxHeartbeats 8000000 in
theorem wireGets_walk (b : List UInt8) (w : World) (hb0 : b.length ≤ 140737488355328) (hv : VNum w) :
    Calls Tryd.prog 8 #[.string ⟨b.toArray⟩] w (RetB (fun v _ => v = .bool true) w) := by
  have HV := Lib.hid hv; clear hv
  by_cases hl : 2000 < b.length
  · have hd : decide ((2000 : Int) < (b.length : Int)) = true := decide_eq_true (by omega)
    go_enter Tryd.func8, Tryd.ntmps8
    go_wp2_with fail
    have hvz := HV.out.tab.keep (Below.refl w.heap.size w) (Nat.le_refl _)
    (with_reducible refine (awake44_any _ hvz).mono ?_)
    rintro e wz ⟨v, rfl, rfl, hbz⟩
    have hdz := (Below.refl w.heap.size w).trans (hbz.mono (Below.refl w.heap.size w).size)
    clear hbz
    go_wp2_with fail
    go_ret
    exact ⟨_, rfl, rfl, hdz⟩
  have hd : decide ((2000 : Int) < (b.length : Int)) = false := decide_eq_false (by omega)
  have hf := wget_fit b (by omega)
  have hor := Pl.wget_or b
  have g1 := fun W h => wget_any b W (by omega) h
  have g2 := fun W => rget_any44 b W (by omega)
  unfold GetOut at g1 g2
  obtain ⟨⟨m, E⟩, hG⟩ : ∃ x, Pl.wget b = x := ⟨_, rfl⟩
  rw [hG] at hf hor g1 g2
  simp only at hf g1 g2
  have s1 := fun X Y W h h2 => same44_any m m X Y W h h2 hf.2 hf.2
  rw [show Pl.eqM m m = true from (Pl.eqM_iff _ _).2 rfl] at s1
  have p1 := fun X W h hv => wput_any m X W h hf.2 hf.1 hv
  have hor2 : E = 0 → Pl.wput m = (b, 0) := fun h => by
    rcases hor with ⟨m', h1, h2⟩ | h1
    · injection h1 with h1 _; rw [h1]; exact h2
    · injection h1 with _ h1; omega
  have HG := Lib.hid (And.intro g1 (And.intro g2 (And.intro s1 (And.intro p1 hor2))))
  clear g1 g2 s1 p1 hor2 hor hf hG
  go_enter Tryd.func8, Tryd.ntmps8
  go_wp2_with fail
  (with_reducible refine (HG.out.1 _ HV.out).mono ?_)
  rintro e w1 ⟨v, rfl, ⟨X1, rfl, hok1⟩, hb1⟩
  have hl1 : (mgL m X1).toArray.size = 45 := by rw [List.size_toArray]; exact mgL_len hok1
  have ho1 := mgL_one m X1
  obtain ⟨L1, hL1⟩ : ∃ L, mgL m X1 = L := ⟨_, rfl⟩
  rw [hL1] at hl1 ho1 ⊢
  have H1 := Lib.hid (And.intro hL1 (And.intro hl1 (And.intro ho1 (And.intro (show (Tryd.prog.info? 31).map (·.size) = some L1.toArray.size by rw [hl1]; exact info_msg) (show (Tryd.prog.info? 31).map (·.size) = some L1.length by rw [← List.size_toArray, hl1]; exact info_msg)))))
  clear hL1 hl1 ho1
  go_upto_region 4 with (with_reducible refine wpList_store_mid rfl 31 _ _ rfl w1.heap.size 0 L1.toArray rfl rfl (there_row (heap_alloc_new _ _) (by rw [H1.out.2.1]; exact Nat.le_of_ble_eq_true rfl)) H1.out.2.2.2.1 H1.out.2.2.1 ?_)
  generalize hW : World.setCells _ _ _ _ = w2
  have hb : Below w1.heap.size w1 w2 := by rw [← hW]; exact ((Below.refl _ _).alloc (Nat.le_refl _) _).trans (Lib.below_setCells_w (Nat.le_refl _) _ _ _)
  have hr1 : w2.rangeAt w1.heap.size 0 L1 := by
    rw [← hW]
    refine World.rangeAt_setCells_same _ _ _ _ (there_row (heap_alloc_new _ _) ?_)
    rw [show L1.toArray.toList.length = 45 by have := H1.out.2.1; simpa using this]; exact Nat.le_of_ble_eq_true rfl
  have hB1 : w1.heap.size < w2.heap.size := by rw [← hW]; exact Nat.lt_of_lt_of_le (by simp) (Lib.below_setCells_w (Nat.le_refl w1.heap.size) _ _ _).size
  clear hW
  replace hok1 := hok1.below hb
  replace hb1 := hb1.trans (hb.mono hb1.size)
  clear hb
  obtain ⟨Q1, hQ1⟩ : ∃ h, w1.heap.size = h := ⟨_, rfl⟩
  rw [hQ1] at hr1 hB1 ⊢
  clear hQ1
  go_wp2_with fail
  (with_reducible refine (HG.out.2.1 _).mono ?_)
  rintro e w3 ⟨v, rfl, ⟨X2, rfl, hok2⟩, hb3⟩
  replace hr1 : w3.rangeAt Q1 0 L1 := fun j v hv => (hb3.cell (p := ⟨Q1, 0 + j, none⟩) hB1).trans (hr1 j v hv)
  replace hok1 := hok1.below hb3
  replace hB1 := Nat.lt_of_lt_of_le hB1 hb3.size
  replace hb1 := hb1.trans (hb3.mono hb1.size)
  clear hb3
  have hl2 : (mgL m X2).toArray.size = 45 := by rw [List.size_toArray]; exact mgL_len hok2
  have ho2 := mgL_one m X2
  obtain ⟨L2, hL2⟩ : ∃ L, mgL m X2 = L := ⟨_, rfl⟩
  rw [hL2] at hl2 ho2 ⊢
  have H2 := Lib.hid (And.intro hL2 (And.intro hl2 (And.intro ho2 (And.intro (show (Tryd.prog.info? 31).map (·.size) = some L2.toArray.size by rw [hl2]; exact info_msg) (show (Tryd.prog.info? 31).map (·.size) = some L2.length by rw [← List.size_toArray, hl2]; exact info_msg)))))
  clear hL2 hl2 ho2
  go_upto_region 5 with (with_reducible refine wpList_store_mid rfl 31 _ _ rfl w3.heap.size 0 L2.toArray rfl rfl (there_row (heap_alloc_new _ _) (by rw [H2.out.2.1]; exact Nat.le_of_ble_eq_true rfl)) H2.out.2.2.2.1 H2.out.2.2.1 ?_)
  generalize hW : World.setCells _ _ _ _ = w4
  have hb : Below w3.heap.size w3 w4 := by rw [← hW]; exact ((Below.refl _ _).alloc (Nat.le_refl _) _).trans (Lib.below_setCells_w (Nat.le_refl _) _ _ _)
  have hr2 : w4.rangeAt w3.heap.size 0 L2 := by
    rw [← hW]
    refine World.rangeAt_setCells_same _ _ _ _ (there_row (heap_alloc_new _ _) ?_)
    rw [show L2.toArray.toList.length = 45 by have := H2.out.2.1; simpa using this]; exact Nat.le_of_ble_eq_true rfl
  have hB2 : w3.heap.size < w4.heap.size := by rw [← hW]; exact Nat.lt_of_lt_of_le (by simp) (Lib.below_setCells_w (Nat.le_refl w3.heap.size) _ _ _).size
  clear hW
  replace hok2 := hok2.below hb
  replace hr1 : w4.rangeAt Q1 0 L1 := fun j v hv => (hb.cell (p := ⟨Q1, 0 + j, none⟩) hB1).trans (hr1 j v hv)
  replace hok1 := hok1.below hb
  replace hB1 := Nat.lt_of_lt_of_le hB1 hb.size
  replace hb1 := hb1.trans (hb.mono hb1.size)
  clear hb
  obtain ⟨Q2, hQ2⟩ : ∃ h, w3.heap.size = h := ⟨_, rfl⟩
  rw [hQ2] at hr2 hB2 ⊢
  clear hQ2
  have hi2 := H1.out.2.2.2.2
  have hi3 := H2.out.2.2.2.2
  have hEE : ((E : Int) == (E : Int)) = true := by simp
  have hEE' : ((E : Int) != (E : Int)) = false := by simp
  go_wp2_with (first
    | (with_reducible refine wpList_load_mid_g (by with_unfolding_all rfl) 31 _ rfl Q1 0 rfl L1 _ hr1 Tryd.underlying31 rfl hi2 ?_)
    | (with_reducible refine wpList_load_mid_g (by with_unfolding_all rfl) 31 _ rfl Q2 0 rfl L2 _ hr2 Tryd.underlying31 rfl hi3 ?_))
  rw [← H1.out.1, ← H2.out.1]
  (with_reducible refine (HG.out.2.2.1 X1 X2 _ hok1 hok2).mono ?_)
  rintro e w5 ⟨v, rfl, rfl, hb5⟩
  rw [H1.out.1, H2.out.1]
  replace hr1 : w5.rangeAt Q1 0 L1 := fun j v hv => (hb5.cell (p := ⟨Q1, 0 + j, none⟩) hB1).trans (hr1 j v hv)
  replace hok1 := hok1.below hb5
  replace hb1 := hb1.trans (hb5.mono hb1.size)
  clear hb5 hr2 hok2
  by_cases hE : E ≠ 0
  · have t1 : ((E : Int) == 0) = false := by rw [beq_eq_false_iff_ne]; omega
    have t1' : ((E : Int) != 0) = true := by unfold bne; rw [t1]; rfl
    go_wp2_with fail
    have hvz := HV.out.tab.keep (hb1) (Nat.le_refl _)
    (with_reducible refine (awake44_any _ hvz).mono ?_)
    rintro e wz ⟨v, rfl, rfl, hbz⟩
    have hdz := (hb1).trans (hbz.mono (hb1).size)
    clear hbz
    go_wp2_with fail
    go_ret
    exact ⟨_, rfl, rfl, hdz⟩
  obtain rfl : E = 0 := by omega
  clear hE hEE hEE'
  go_wp2_with (with_reducible refine wpList_load_mid rfl 31 _ rfl Q1 0 rfl L1 _ hr1 Tryd.underlying31 rfl hi2 ?_)
  rw [← H1.out.1]
  (with_reducible refine (HG.out.2.2.2.1 X1 _ hok1 (HV.out.tab.keep hb1 (Nat.le_refl _))).mono ?_)
  rintro e w7 ⟨v, rfl, rfl, hb7⟩
  rw [H1.out.1, HG.out.2.2.2.2 (by simp)]
  unfold bytesV
  replace hb7 := hb1.trans (hb7.mono hb1.size)
  clear hb1 hr1 hok1
  have hBB : (b == b) = true := by simp
  go_wp2_with fail
  have hvz := HV.out.tab.keep (hb7) (Nat.le_refl _)
  (with_reducible refine (awake44_any _ hvz).mono ?_)
  rintro e wz ⟨v, rfl, rfl, hbz⟩
  have hdz := (hb7).trans (hbz.mono (hb7).size)
  clear hbz
  go_wp2_with fail
  go_ret
  exact ⟨_, rfl, rfl, hdz⟩
-- FRAME
set_option maxRecDepth 100000 in
theorem wireGets_lifted (os : Os) (started : os.Started) (H : Type) (enc : TypeId × Value → H) :
    ReturnsInHanded {} Tryd.checked os 8 .any (fun w args => (Rows.wireGetsSpec.pre enc Tryd.prog Tryd.f8 [] false w args ∧ laidMetH Tryd.prog tabs5 w) ∧ sizedMet enc Tryd.prog Tryd.f8 (OpenSpec.ofChange Rows.wireGetsSpec) false w args) (Rows.wireGetsSpec.post enc Tryd.prog Tryd.f8 false true false false) := by
  refine returnsInHanded_of_change_and (C := Tryd.checked) (X := fun w _ => laidMetH Tryd.prog tabs5 w) (fun _ _ _ hh h => h.of_heap hh) own started (by kernel_rfl) Tryd.func8
    (ChangeSpec.witness_shaped (enc := enc) (C := Tryd.checked) (os := os) (X := fun w _ => laidMetH Tryd.prog tabs5 w) false (World.doorLaid Tryd.prog 100 os) #[.string ⟨#[]⟩] 8 rfl (World.shaped_of_RefB (by kernel_rfl) (by kernel_rfl)) (by kernel_rfl) (by kernel_rfl) (by kernel_rfl) (door_met5 os _)) ?_
  intro W base args ds gs before hval0 hW hcnd hsz0 hL _
  have hvars := vnum_of5 hL
  have hval : ∀ (j : Nat) t v, Tryd.f8.params[j]? = some t → args[j]? = some v → Value.okWide Tryd.prog W .any base t v := hval0
  have hW' := hW
  obtain ⟨p, q, hA0, hV, rfl, hfz, hnd⟩ := hW
  have hA : DataW.TrodAll enc Tryd.prog W 0 (fun _ => true) true Tryd.f8.params.toList args.toList ds p := hA0
  have hsz : (DataW.weightsEach Tryd.prog (Tryd.f8.params.toList ++ Rows.wireGetsSpec.plain.varTypes Tryd.prog) (ds ++ gs)).all (· ≤ reachBytes) = true := hsz0
  rw [Tryd.params8] at hA hval hsz
  obtain ⟨v0, vs0, d0, ds0, p0, q0, hargs, rfl, rfl, h0, r0⟩ := trodAll_cons hA
  obtain ⟨rfl, rfl, rfl⟩ := trodAll_nil r0
  obtain rfl : args = #[v0] := by cases args; simp_all
  obtain ⟨rfl, rfl⟩ := trodVars_none hV
  have k0 := h0
  have lt0 : ∀ x ∈ p0, x.block < W.heap.size := by obtain ⟨m, hm⟩ := k0; exact DataW.trod_lt m _ _ _ hm
  have hz0 : ∀ m ∈ d0.weights Tryd.prog 9, m ≤ reachBytes := fun m hm => by
    have h1 := List.all_eq_true.1 hsz m (DataW.weights_mem_each (j := 0) rfl rfl m hm)
    simpa using h1
  obtain ⟨l0, rfl, eA0⟩ := open_str (hval 0 9 v0 rfl rfl) h0 hz0
  clear hA0 hval0 hsz0
  refine (wireGets_walk l0 W (Nat.le_trans eA0 reach_le) hvars).mono fun e W' ⟨v, he, hv, bel⟩ => ?_
  subst he hv
  exact ⟨_, rfl, _, _, _, [], _, [], hW', trodAll_mk1 (shut_bool Tryd.underlying4 _), (trodAll_cons_mk (Below.trod laidOut (by kernel_rfl) (of_decide_eq_true (by kernel_rfl)) k0 bel lt0) trodAll_mk0), rfl, bel.frame _, fun h => by cases h⟩

theorem wireGets_row : Rows.WireGetsSaid :=
  OpenClaim.holds_of_wide 8 Tryd.f8 rfl rfl rfl rfl rfl rfl rfl ⟨rfl, rfl, rfl, rfl, rfl⟩ rfl rfl rfl rfl rfl (by kernel_rfl) Tryd.func8 (by kernel_rfl)
    (of_decide_eq_true (by kernel_rfl)) (by unfold Func.isWrapper; first | (rw [if_pos (by decide +kernel)]; kernel_rfl) | (rw [if_neg (by decide +kernel)]; exact ⟨rfl, rfl⟩))
    (fun os started H enc _ => wireGets_lifted os started H enc)

theorem wireGets_holds : Rows.WireGetsCardSaid :=
  Claim7.holds_tied_plain_at .later [] [.data, .data, .data, .sentinel, .sentinel] true (true, "8c7f5076b4464b0d47fcd8bd876a472c897cfef33dbc23ff4e6154515a454f93") true
    wireGets_row (fun _ h => by cases h) (by kernel_rfl) (fun _ h => by cases h) wireGets_row_tie rfl ⟨rfl, rfl⟩ (by kernel_rfl) rfl
    (fun f fn hf hfn => by
      obtain rfl : f = 8 := Option.some.inj ((show Tryd.prog.funcNamed "hibernacle/hibernaclelaw44.WireGets" = some 8 by kernel_rfl).symm.trans hf) |>.symm
      obtain rfl : fn = Tryd.f8 := (Option.some.inj (Tryd.func8.symm.trans hfn)).symm
      exact ⟨by kernel_rfl, fun j t ht => by
        rw [Tryd.params8] at ht
        rcases j with _ | _ | _ | _ | j
        all_goals first
          | (simp at ht; done)
          | (have h3 := Option.some.inj ht; subst h3; exact (show Tryd.prog.wantsStandIn _ = false by kernel_rfl))⟩)
    (by kernel_rfl)
#print axioms wireGets_holds
end Go.Proofs.YtommlolhpaeioaaDoor
