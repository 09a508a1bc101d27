/- WireCuts holds: a message's bytes cut short, or with more behind them, are no message's. No condition. -/
import Derived.Test.YtommlolhpaeioaaDoorLaid
import Derived.Test.YtommlolhpaeioaaDoorTie
import Derived.Test.YtommlolhpaeioaaDoorCards
import Derived.Deep.DeepHandedRow
import Derived.Deep.DeepWitnessRowRef
import Derived.Lib.LaidTab
import Derived.Test.YtommlolhpaeioaaDoorWireG
import Derived.Test.YtommlolhpaeioaaDoorWireK
import Derived.Test.YtommlolhpaeioaaDoorWireS
import Derived.Test.YtommlolhpaeioaaDoorOpenMg
namespace Go.Proofs.YtommlolhpaeioaaDoor
open Go.ChangeShapes Go.WideShapes Go.ChangeAt Go.RowKit
set_option linter.unusedVariables false
set_option linter.unusedSimpArgs false
attribute [local go_sem] ba_get ba_cut ba_add
theorem mg_mok {w : World} {m : Pl.Msg} {X : Cx} (h : SnOk w m.snap X) (hn : MgNum m) : Pl.MOk m := ⟨h.sum, hn.snap.c, hn.k, hn.n, hn.why⟩
theorem wput_two (m : Pl.Msg) : (Pl.wput m).2 = Pl.wchk m := by
  by_cases h : Pl.wchk m = 0
  · rw [Pl.wput_ok h, h]
  · rw [Pl.wput_no h]
theorem fitM0 : MgFit Pl.zeroM := ⟨by decide, fit_zero⟩
theorem wput_len {m : Pl.Msg} (hm : Pl.MOk m) (h : Pl.wchk m = 0) : 0 < (Pl.wput m).1.length ∧ (Pl.wput m).1.length ≤ 2816046 := by
  rw [Pl.wput_ok h]
  have h1 := Pl.rowB_len_le [Lib.itoa m.k, Pl.bodyM m] 704011 (Pl.row_short (Pl.wOk_of h) hm)
  simp only [show ([Lib.itoa m.k, Pl.bodyM m] : List (List UInt8)).length = 2 from rfl] at h1
  have h2 := List.length_pos_iff.2 (Pl.lenB_ne (Lib.itoa m.k).length)
  have h3 : (Pl.rowB [Lib.itoa m.k, Pl.bodyM m]).length = (Pl.lenB (Lib.itoa m.k).length).length + ((Lib.itoa m.k).length + (Pl.rowB [Pl.bodyM m]).length) := by simp [Pl.rowB]
  constructor <;> simp only <;> omega
set_option maxRecDepth 100000 in
set_option maxHeartbeats 8000000 in
theorem wireCuts_walk (m : Pl.Msg) (X : Cx) (k : Nat) (y : List UInt8) (w : World) (hm0 : SnOk w m.snap X) (fm : MgFit m) (nm : MgNum m) (hk : k < 65536) (hy : y.length ≤ 140737488355328) (hv : VNum w) :
    Calls Tryd.prog 10 #[.agg (mgL m X).toArray, .int .u16 k, .string ⟨y.toArray⟩] w (RetB (fun v _ => v = .bool true) w) := by
  have hok := mg_mok hm0 nm
  have HSM := Lib.hid hm0.sum
  have HI := Lib.hid (info_mg hm0)
  have g1 := fun W h => great44_any m X W h fm
  have p1 := fun W h hv => wput_any m X W h fm hok hv
  have ee := wput_two m
  have hcut := fun j h => Pl.wget_cut (m := m) (j := j) h hok
  have hmore := fun h => Pl.wget_more (m := m) (r := y) h hok
  have hlen := fun h => wput_len hok h
  obtain ⟨P, hP⟩ : ∃ P, Pl.wput m = P := ⟨_, rfl⟩
  rw [hP] at p1 ee hmore hlen
  obtain ⟨B, E⟩ := P
  simp only at ee hmore hlen
  have hcut2 : Pl.wchk m = 0 → ∀ j, j < B.length → Pl.wget (B.take j) = (Pl.zeroM, 3) := fun h j hj => by
    have := hcut j h (by rw [hP]; exact hj)
    rwa [hP] at this
  rw [← ee] at hcut2 hmore hlen
  have HG := Lib.hid (And.intro g1 p1)
  have HN := Lib.hid (And.intro hcut2 (And.intro hmore hlen))
  have HOK := Lib.hid hm0
  have HV := Lib.hid hv
  clear g1 p1 ee hcut hcut2 hmore hlen hP hm0 hv hok fm nm
  obtain ⟨LA, hLA⟩ : ∃ L, mgL m X = L := ⟨_, rfl⟩
  rw [hLA]
  have HLL := Lib.hid hLA
  obtain ⟨LZ, hLZ⟩ : ∃ L, mgL Pl.zeroM cx0 = L := ⟨_, rfl⟩
  have HLZ := Lib.hid hLZ; clear hLZ
  go_enter Tryd.func10, Tryd.ntmps10
  go_upto_region 1 with (fail)
  generalize hV : w.alloc _ = V
  have hx : Mg V w.heap.size m X := by rw [← hV, ← hLA]; exact mg_row HSM.out (heap_alloc_new w _)
  have hbV : Below w.heap.size w V := by rw [← hV]; exact (Below.refl _ _).alloc (Nat.le_refl _) _
  have hBV : w.heap.size < V.heap.size := by rw [← hV]; simp
  clear hV hLA
  have HD := Lib.hid hbV
  have hi1 := HI.out
  rw [HLL.out] at hi1
  have HX := Lib.hid hx; clear hx
  have HK := Lib.hid (show ∀ W, Below V.heap.size V W → W.rangeAt w.heap.size 0 LA from fun W hb => by
    have h1 := (HX.out.keep HSM.out hBV hb).all
    rwa [HLL.out] at h1)
  have HKB := Lib.hid (show ∀ W, Below V.heap.size V W → Below w.heap.size w W from fun W hb => hbV.trans (hb.mono hbV.size))
  clear hbV hBV
  have hr1 := HK.out V (Below.refl _ _)
  go_wp2_with (with_reducible refine wpList_load_mid rfl 31 _ rfl w.heap.size 0 rfl LA _ hr1 Tryd.underlying31 rfl hi1 ?_)
  rw [← HLL.out]
  (with_reducible refine (HG.out.1 _ (HOK.out.below HD.out)).mono ?_)
  rintro e w1 ⟨v, rfl, hv1, hb1⟩
  rw [HLL.out]
  replace hr1 := HK.out _ hb1
  rcases hv1 with rfl | rfl
  rotate_left
  · go_wp2_with fail
    have hvz := HV.out.tab.keep (HKB.out _ hb1) (Nat.le_refl _)
    (with_reducible refine (awake44_any _ hvz).mono ?_)
    rintro e wz ⟨v, rfl, rfl, hbz⟩
    have hdz := (HKB.out _ hb1).trans (hbz.mono (HKB.out _ hb1).size)
    clear hbz
    go_wp2_with fail
    go_ret
    exact ⟨_, rfl, rfl, hdz⟩
  by_cases hl : 300 < y.length
  · have hd : decide ((300 : Int) < (y.length : Int)) = true := decide_eq_true (by omega)
    go_wp2_with fail
    have hvz := HV.out.tab.keep (HKB.out _ hb1) (Nat.le_refl _)
    (with_reducible refine (awake44_any _ hvz).mono ?_)
    rintro e wz ⟨v, rfl, rfl, hbz⟩
    have hdz := (HKB.out _ hb1).trans (hbz.mono (HKB.out _ hb1).size)
    clear hbz
    go_wp2_with fail
    go_ret
    exact ⟨_, rfl, rfl, hdz⟩
  have hd : decide ((300 : Int) < (y.length : Int)) = false := decide_eq_false (by omega)
  by_cases hye : y = []
  · have hye' : y.isEmpty = true := by rw [hye]; rfl
    go_wp2_with fail
    have hvz := HV.out.tab.keep (HKB.out _ hb1) (Nat.le_refl _)
    (with_reducible refine (awake44_any _ hvz).mono ?_)
    rintro e wz ⟨v, rfl, rfl, hbz⟩
    have hdz := (HKB.out _ hb1).trans (hbz.mono (HKB.out _ hb1).size)
    clear hbz
    go_wp2_with fail
    go_ret
    exact ⟨_, rfl, rfl, hdz⟩
  have hye' : y.isEmpty = false := by
    cases hh : y with
    | nil => exact absurd hh hye
    | cons _ _ => rfl
  go_wp2_with (with_reducible refine wpList_load_mid rfl 31 _ rfl w.heap.size 0 rfl LA _ hr1 Tryd.underlying31 rfl hi1 ?_)
  rw [← HLL.out]
  (with_reducible refine (HG.out.2 _ (HOK.out.below (HKB.out _ hb1)) (HV.out.tab.keep (HKB.out _ hb1) (Nat.le_refl _))).mono ?_)
  rintro e w2 ⟨v, rfl, rfl, hb2⟩
  rw [HLL.out]
  replace hb2 := hb1.trans (hb2.mono hb1.size)
  clear hb1 hr1 hd hye'
  unfold bytesV
  by_cases hE : E ≠ 0
  · have t1 : ((E : Int) == 0) = false := by rw [beq_eq_false_iff_ne]; omega
    have t1' : ((E : Int) != 0) = true := by unfold bne; rw [t1]; rfl
    go_wp2_with fail
    have hvz := HV.out.tab.keep (HKB.out _ hb2) (Nat.le_refl _)
    (with_reducible refine (awake44_any _ hvz).mono ?_)
    rintro e wz ⟨v, rfl, rfl, hbz⟩
    have hdz := (HKB.out _ hb2).trans (hbz.mono (HKB.out _ hb2).size)
    clear hbz
    go_wp2_with fail
    go_ret
    exact ⟨_, rfl, rfl, hdz⟩
  obtain rfl : E = 0 := by omega
  clear hE
  obtain ⟨hl1, hl2⟩ := HN.out.2.2 rfl
  obtain ⟨n, hn⟩ : ∃ n, B.length = n := ⟨_, rfl⟩
  have hnl : (⟨B.toArray⟩ : ByteArray).size = n := by simp [ByteArray.size, hn]
  rw [hn] at hl1 hl2
  have t0 : ((n : Int) == 0) = false := by rw [beq_eq_false_iff_ne]; omega
  have hjl : k % n < n := Nat.mod_lt _ hl1
  obtain ⟨j, hj⟩ : ∃ j, k % n = j := ⟨_, rfl⟩
  rw [hj] at hjl
  have hji : (k : Int) % (n : Int) = j := by rw [← hj]; simp
  have HJ := Lib.hid (And.intro hn (And.intro (HN.out.1 rfl j (by rw [hn]; exact hjl)) (HN.out.2.1 rfl hye)))
  have w1g := fun W h => wget_any (B.take j) W (by rw [List.length_take, HJ.out.1]; omega) h
  have w2g := fun W h => wget_any (B ++ y) W (by rw [List.length_append, HJ.out.1]; omega) h
  unfold GetOut at w1g w2g
  rw [HJ.out.2.1] at w1g
  rw [HJ.out.2.2] at w2g
  have HWG := Lib.hid (And.intro w1g w2g); clear w1g w2g hj
  have hyl : y.length ≤ 300 := by omega
  go_wp2_with fail
  (with_reducible refine (HWG.out.1 _ (HV.out.keep (HKB.out _ hb2) (Nat.le_refl _))).mono ?_)
  rintro e w3 ⟨v, rfl, ⟨X1, rfl, hok1⟩, hb3⟩
  replace hb3 := hb2.trans (hb3.mono hb2.size)
  clear hb2
  have hl1 : (mgL Pl.zeroM X1).toArray.size = 45 := by rw [List.size_toArray]; exact mgL_len hok1
  have ho1 := mgL_one Pl.zeroM X1
  obtain ⟨L1, hL1⟩ : ∃ L, mgL Pl.zeroM X1 = L := ⟨_, rfl⟩
  simp only
  rw [hL1] at hl1 ho1 ⊢
  have H1 := Lib.hid (And.intro hL1 (And.intro hl1 (And.intro ho1 (And.intro (show (Tryd.prog.info? 31).map (·.size) = some L1.toArray.size by rw [hl1]; exact info_msg) (show (Tryd.prog.info? 31).map (·.size) = some L1.length by rw [← List.size_toArray, hl1]; exact info_msg)))))
  clear hL1 hl1 ho1
  go_upto_region 7 with (with_reducible refine wpList_store_mid rfl 31 _ _ rfl w3.heap.size 0 L1.toArray rfl rfl (there_row (heap_alloc_new _ _) (by rw [H1.out.2.1]; exact Nat.le_of_ble_eq_true rfl)) H1.out.2.2.2.1 H1.out.2.2.1 ?_)
  generalize hW : World.setCells _ _ _ _ = w4
  have hb : Below w3.heap.size w3 w4 := by rw [← hW]; exact ((Below.refl _ _).alloc (Nat.le_refl _) _).trans (Lib.below_setCells_w (Nat.le_refl _) _ _ _)
  have hr1 : w4.rangeAt w3.heap.size 0 L1 := by
    rw [← hW]
    refine World.rangeAt_setCells_same _ _ _ _ (there_row (heap_alloc_new _ _) ?_)
    rw [show L1.toArray.toList.length = 45 by have := H1.out.2.1; simpa using this]; exact Nat.le_of_ble_eq_true rfl
  have hB1 : w3.heap.size < w4.heap.size := by rw [← hW]; exact Nat.lt_of_lt_of_le (by simp) (Lib.below_setCells_w (Nat.le_refl w3.heap.size) _ _ _).size
  clear hW
  replace hok1 := hok1.below hb
  replace hb3 := hb3.trans (hb.mono hb3.size)
  clear hb
  obtain ⟨Q1, hQ1⟩ : ∃ h, w3.heap.size = h := ⟨_, rfl⟩
  rw [hQ1] at hr1 hB1 ⊢
  clear hQ1
  go_wp2_with fail
  (with_reducible refine (HWG.out.2 _ (HV.out.keep (HKB.out _ hb3) (Nat.le_refl _))).mono ?_)
  rintro e w5 ⟨v, rfl, ⟨X2, rfl, hok2⟩, hb5⟩
  replace hr1 : w5.rangeAt Q1 0 L1 := fun j v hv => (hb5.cell (p := ⟨Q1, 0 + j, none⟩) hB1).trans (hr1 j v hv)
  replace hok1 := hok1.below hb5
  replace hB1 := Nat.lt_of_lt_of_le hB1 hb5.size
  replace hb5 := hb3.trans (hb5.mono hb3.size)
  clear hb3
  have hl2 : (mgL Pl.zeroM X2).toArray.size = 45 := by rw [List.size_toArray]; exact mgL_len hok2
  have ho2 := mgL_one Pl.zeroM X2
  obtain ⟨L2, hL2⟩ : ∃ L, mgL Pl.zeroM X2 = L := ⟨_, rfl⟩
  simp only
  rw [hL2] at hl2 ho2 ⊢
  have H2 := Lib.hid (And.intro hL2 (And.intro hl2 (And.intro ho2 (And.intro (show (Tryd.prog.info? 31).map (·.size) = some L2.toArray.size by rw [hl2]; exact info_msg) (show (Tryd.prog.info? 31).map (·.size) = some L2.length by rw [← List.size_toArray, hl2]; exact info_msg)))))
  clear hL2 hl2 ho2
  go_upto_region 8 with (with_reducible refine wpList_store_mid rfl 31 _ _ rfl w5.heap.size 0 L2.toArray rfl rfl (there_row (heap_alloc_new _ _) (by rw [H2.out.2.1]; exact Nat.le_of_ble_eq_true rfl)) H2.out.2.2.2.1 H2.out.2.2.1 ?_)
  generalize hW : World.setCells _ _ _ _ = w6
  have hb : Below w5.heap.size w5 w6 := by rw [← hW]; exact ((Below.refl _ _).alloc (Nat.le_refl _) _).trans (Lib.below_setCells_w (Nat.le_refl _) _ _ _)
  have hr2 : w6.rangeAt w5.heap.size 0 L2 := by
    rw [← hW]
    refine World.rangeAt_setCells_same _ _ _ _ (there_row (heap_alloc_new _ _) ?_)
    rw [show L2.toArray.toList.length = 45 by have := H2.out.2.1; simpa using this]; exact Nat.le_of_ble_eq_true rfl
  have hB2 : w5.heap.size < w6.heap.size := by rw [← hW]; exact Nat.lt_of_lt_of_le (by simp) (Lib.below_setCells_w (Nat.le_refl w5.heap.size) _ _ _).size
  clear hW
  replace hok2 := hok2.below hb
  replace hr1 : w6.rangeAt Q1 0 L1 := fun j v hv => (hb.cell (p := ⟨Q1, 0 + j, none⟩) hB1).trans (hr1 j v hv)
  replace hok1 := hok1.below hb
  replace hB1 := Nat.lt_of_lt_of_le hB1 hb.size
  replace hb5 := hb5.trans (hb.mono hb5.size)
  clear hb
  obtain ⟨Q2, hQ2⟩ : ∃ h, w5.heap.size = h := ⟨_, rfl⟩
  rw [hQ2] at hr2 hB2 ⊢
  clear hQ2
  have s1 := fun X' W h => same44_any Pl.zeroM Pl.zeroM X' cx0 W h (ok_zero W) fitM0 fitM0
  rw [show Pl.eqM Pl.zeroM Pl.zeroM = true from (Pl.eqM_iff _ _).2 rfl] at s1
  have HS := Lib.hid s1; clear s1
  have hi2 := H1.out.2.2.2.2
  have hi3 := H2.out.2.2.2.2
  go_wp2_with (first
    | (with_reducible refine wpList_load_mid_g (by with_unfolding_all rfl) 31 _ rfl Q1 0 rfl L1 _ hr1 Tryd.underlying31 rfl hi2 ?_)
    | (with_reducible refine wpList_build_m0_g HLZ.out (by with_unfolding_all rfl) rfl ?_))
  rw [← H1.out.1, ← HLZ.out]
  (with_reducible refine (HS.out X1 _ hok1).mono ?_)
  rintro e w7 ⟨v, rfl, rfl, hb7⟩
  rw [H1.out.1, HLZ.out]
  replace hr2 : w7.rangeAt Q2 0 L2 := fun j v hv => (hb7.cell (p := ⟨Q2, 0 + j, none⟩) hB2).trans (hr2 j v hv)
  replace hok2 := hok2.below hb7
  replace hb7 := hb5.trans (hb7.mono hb5.size)
  clear hb5 hr1 hok1
  go_wp2_with (first
    | (with_reducible refine wpList_load_mid_g (by with_unfolding_all rfl) 31 _ rfl Q2 0 rfl L2 _ hr2 Tryd.underlying31 rfl hi3 ?_)
    | (with_reducible refine wpList_build_m0_g HLZ.out (by with_unfolding_all rfl) rfl ?_))
  rw [← H2.out.1, ← HLZ.out]
  (with_reducible refine (HS.out X2 _ hok2).mono ?_)
  rintro e w8 ⟨v, rfl, rfl, hb8⟩
  rw [H2.out.1, HLZ.out]
  replace hb8 := hb7.trans (hb8.mono hb7.size)
  clear hb7 hr2 hok2
  go_wp2_with fail
  have hvz := HV.out.tab.keep (HKB.out _ hb8) (Nat.le_refl _)
  (with_reducible refine (awake44_any _ hvz).mono ?_)
  rintro e wz ⟨v, rfl, rfl, hbz⟩
  have hdz := (HKB.out _ hb8).trans (hbz.mono (HKB.out _ hb8).size)
  clear hbz
  go_wp2_with fail
  go_ret
  exact ⟨_, rfl, rfl, hdz⟩
-- FRAME
set_option maxRecDepth 100000 in
theorem wireCuts_lifted (os : Os) (started : os.Started) (H : Type) (enc : TypeId × Value → H) :
    ReturnsInHanded {} Tryd.checked os 10 .any (fun w args => (Rows.wireCutsSpec.pre enc Tryd.prog Tryd.f10 [] false w args ∧ laidMetH Tryd.prog tabs5 w) ∧ sizedMet enc Tryd.prog Tryd.f10 (OpenSpec.ofChange Rows.wireCutsSpec) false w args) (Rows.wireCutsSpec.post enc Tryd.prog Tryd.f10 false true false false) := by
  refine returnsInHanded_of_change_and (C := Tryd.checked) (X := fun w _ => laidMetH Tryd.prog tabs5 w) (fun _ _ _ hh h => h.of_heap hh) own started (by kernel_rfl) Tryd.func10
    (ChangeSpec.witness_shaped (enc := enc) (C := Tryd.checked) (os := os) (X := fun w _ => laidMetH Tryd.prog tabs5 w) false (World.doorLaid Tryd.prog 100 os) #[msgW, .int .u16 0, .string ⟨#[]⟩] 8 rfl (World.shaped_of_RefB (by kernel_rfl) (by kernel_rfl)) (by kernel_rfl) (by kernel_rfl) (by kernel_rfl) (door_met5 os _)) ?_
  intro W base args ds gs before hval0 hW hcnd hsz0 hL _
  have hvars := vnum_of5 hL
  have hval : ∀ (j : Nat) t v, Tryd.f10.params[j]? = some t → args[j]? = some v → Value.okWide Tryd.prog W .any base t v := hval0
  have hW' := hW
  obtain ⟨p, q, hA0, hV, rfl, hfz, hnd⟩ := hW
  have hA : DataW.TrodAll enc Tryd.prog W 0 (fun _ => true) true Tryd.f10.params.toList args.toList ds p := hA0
  have hsz : (DataW.weightsEach Tryd.prog (Tryd.f10.params.toList ++ Rows.wireCutsSpec.plain.varTypes Tryd.prog) (ds ++ gs)).all (· ≤ reachBytes) = true := hsz0
  rw [Tryd.params10] at hA hval hsz
  obtain ⟨v0, vs0, d0, ds0, p0, q0, hargs, rfl, rfl, h0, r0⟩ := trodAll_cons hA
  obtain ⟨v1, vs1, d1, ds1, p1, q1, rfl, rfl, rfl, h1, r1⟩ := trodAll_cons r0
  obtain ⟨v2, vs2, d2, ds2, p2, q2, rfl, rfl, rfl, h2, r2⟩ := trodAll_cons r1
  obtain ⟨rfl, rfl, rfl⟩ := trodAll_nil r2
  obtain rfl : args = #[v0, v1, v2] := by cases args; simp_all
  obtain ⟨rfl, rfl⟩ := trodVars_none hV
  have k0 := h0
  have lt0 : ∀ x ∈ p0, x.block < W.heap.size := by obtain ⟨m, hm⟩ := k0; exact DataW.trod_lt m _ _ _ hm
  have hz0 : ∀ m ∈ d0.weights Tryd.prog 31, m ≤ reachBytes := fun m hm => by
    have h1 := List.all_eq_true.1 hsz m (DataW.weights_mem_each (j := 0) rfl rfl m hm)
    simpa using h1
  obtain ⟨m0, X0, rfl, eA0, eB0, eC0⟩ := open_msg (hval 0 31 v0 rfl rfl) h0 hz0
  have k1 := h1
  have lt1 : ∀ x ∈ p1, x.block < W.heap.size := by obtain ⟨m, hm⟩ := k1; exact DataW.trod_lt m _ _ _ hm
  have hz1 : ∀ m ∈ d1.weights Tryd.prog 55, m ≤ reachBytes := fun m hm => by
    have h1 := List.all_eq_true.1 hsz m (DataW.weights_mem_each (j := 1) rfl rfl m hm)
    simpa using h1
  obtain ⟨x1, rfl, eA1⟩ := open_u16 (hval 1 55 v1 rfl rfl) h1 hz1
  have k2 := h2
  have lt2 : ∀ x ∈ p2, x.block < W.heap.size := by obtain ⟨m, hm⟩ := k2; exact DataW.trod_lt m _ _ _ hm
  have hz2 : ∀ m ∈ d2.weights Tryd.prog 9, m ≤ reachBytes := fun m hm => by
    have h1 := List.all_eq_true.1 hsz m (DataW.weights_mem_each (j := 2) rfl rfl m hm)
    simpa using h1
  obtain ⟨l2, rfl, eA2⟩ := open_str (hval 2 9 v2 rfl rfl) h2 hz2
  clear hA0 hval0 hsz0
  refine (wireCuts_walk m0 X0 x1 l2 W eA0 eB0 eC0 eA1 (Nat.le_trans eA2 reach_le) hvars).mono fun e W' ⟨v, he, hv, bel⟩ => ?_
  subst he hv
  exact ⟨_, rfl, _, _, _, [], _, [], hW', trodAll_mk1 (shut_bool Tryd.underlying4 _), (trodAll_cons_mk (Below.trod laidOut (by kernel_rfl) (of_decide_eq_true (by kernel_rfl)) k0 bel lt0) (trodAll_cons_mk (Below.trod laidOut (by kernel_rfl) (of_decide_eq_true (by kernel_rfl)) k1 bel lt1) (trodAll_cons_mk (Below.trod laidOut (by kernel_rfl) (of_decide_eq_true (by kernel_rfl)) k2 bel lt2) trodAll_mk0))), rfl, bel.frame _, fun h => by cases h⟩

theorem wireCuts_row : Rows.WireCutsSaid :=
  OpenClaim.holds_of_wide 10 Tryd.f10 rfl rfl rfl rfl rfl rfl rfl ⟨rfl, rfl, rfl, rfl, rfl⟩ rfl rfl rfl rfl rfl (by kernel_rfl) Tryd.func10 (by kernel_rfl)
    (of_decide_eq_true (by kernel_rfl)) (by unfold Func.isWrapper; first | (rw [if_pos (by decide +kernel)]; kernel_rfl) | (rw [if_neg (by decide +kernel)]; exact ⟨rfl, rfl⟩))
    (fun os started H enc _ => wireCuts_lifted os started H enc)

theorem wireCuts_holds : Rows.WireCutsCardSaid :=
  Claim7.holds_tied_plain_at .later [] [.data, .data, .data, .sentinel, .sentinel] true (true, "8c7f5076b4464b0d47fcd8bd876a472c897cfef33dbc23ff4e6154515a454f93") true
    wireCuts_row (fun _ h => by cases h) (by kernel_rfl) (fun _ h => by cases h) wireCuts_row_tie rfl ⟨rfl, rfl⟩ (by kernel_rfl) rfl
    (fun f fn hf hfn => by
      obtain rfl : f = 10 := Option.some.inj ((show Tryd.prog.funcNamed "hibernacle/hibernaclelaw44.WireCuts" = some 10 by kernel_rfl).symm.trans hf) |>.symm
      obtain rfl : fn = Tryd.f10 := (Option.some.inj (Tryd.func10.symm.trans hfn)).symm
      exact ⟨by kernel_rfl, fun j t ht => by
        rw [Tryd.params10] at ht
        rcases j with _ | _ | _ | _ | j
        all_goals first
          | (simp at ht; done)
          | (have h3 := Option.some.inj ht; subst h3; exact (show Tryd.prog.wantsStandIn _ = false by kernel_rfl))⟩)
    (by kernel_rfl)
#print axioms wireCuts_holds
end Go.Proofs.YtommlolhpaeioaaDoor
