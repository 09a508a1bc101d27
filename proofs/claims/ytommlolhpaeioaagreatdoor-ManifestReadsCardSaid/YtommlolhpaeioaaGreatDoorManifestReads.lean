/- ManifestReads holds: of any bytes the snapshot, or why there is none, is the document's; it has these bytes. No condition. -/
import Derived.Test.YtommlolhpaeioaaGreatDoorLaid
import Derived.Test.YtommlolhpaeioaaGreatDoorTie
import Derived.Test.YtommlolhpaeioaaGreatDoorCards
import Derived.Deep.DeepHandedRow
import Derived.Deep.DeepWitnessRowRef
import Derived.Lib.LaidTab
import Derived.Test.YtommlolhpaeioaaGreatDoorRofA
import Derived.Test.YtommlolhpaeioaaGreatDoorMf4W
import Derived.Test.YtommlolhpaeioaaGreatDoorOpen
namespace Go.Proofs.YtommlolhpaeioaaGreatDoor
open Go.ChangeShapes Go.WideShapes Go.ChangeAt Go.RowKit
set_option linter.unusedVariables false
set_option linter.unusedSimpArgs false
attribute [local go_sem] ba_get ba_cut ba_add
theorem name_len {t : List UInt8} (h : Pl.okN t = true) : t.length = 64 := by
  unfold Pl.okN Pl.hashOf at h
  split at h
  · assumption
  · cases h
theorem chk_fit {s : Pl.Snap} (h : Pl.mchk s = 0) : SnFit s := by
  have hc := Pl.chkOk_of h
  have h1 := Pl.machine_len_le hc.m
  have hl := hc.l
  have g : ∀ l : List (List UInt8), l.all Pl.okN = true → ∀ t ∈ l, t.length ≤ 140737488355328 := fun l ha t ht => by
    have := name_len (List.all_eq_true.1 ha t ht); omega
  exact ⟨by omega, g _ hc.c0, g _ hc.c1, g _ hc.c2, by omega, by omega, by omega⟩
set_option maxRecDepth 100000 in
set_option maxHeartbeats 8000000 in
theorem manifestReads_walk (b : List UInt8) (w : World) (hb0 : b.length ≤ 140737488355328) (hv : VNum w) :
    Calls Tryz.prog 3 #[.string ⟨b.toArray⟩] w (RetB (fun v _ => v = .bool true) w) := by
  have HV := Lib.hid hv; clear hv
  have HAL := Lib.hid (fun W h => alive41_any W h)
  by_cases hl : 5000 < b.length
  · have hd : decide ((5000 : Int) < (b.length : Int)) = true := decide_eq_true (by omega)
    go_enter Tryz.func3, Tryz.ntmps3
    go_wp2_with fail
    (with_reducible refine (HAL.out _ HV.out.tab).mono ?_)
    rintro e w0 ⟨v, rfl, rfl, hb0⟩
    go_wp2_with fail
    go_ret
    exact ⟨_, rfl, rfl, hb0⟩
  have hd : decide ((5000 : Int) < (b.length : Int)) = false := decide_eq_false (by omega)
  have hcs := Pl.mof_case b
  have hbk := fun s h => Pl.mbytes_mof (b := b) (s := s) (by omega) h
  have g1 := fun W h => mfof_any b W (by omega) h
  have g2 := fun W => rmof_any b W (by omega)
  unfold MOfOut at g1 g2
  obtain ⟨⟨s, E⟩, hG⟩ : ∃ x, Pl.mof b = x := ⟨_, rfl⟩
  rw [hG] at hcs hbk g1 g2
  simp only at g1 g2
  have hfc : SnFit s ∧ 0 ≤ s.clock ∧ s.clock < 18446744073709551616 := by
    rcases hcs with ⟨s', h1, h2, h3, h4⟩ | ⟨e', h1, h2⟩
    · injection h1 with h1 _; rw [h1]; exact ⟨chk_fit h2, h4⟩
    · injection h1 with h1 _; rw [h1]; exact ⟨fit_zero, by decide⟩
  have s1 := fun X Y W h h2 => same41_any s s X Y W h h2 hfc.1 hfc.1
  rw [show Pl.eqS s s = true from (Pl.eqS_iff _ _).2 rfl] at s1
  have p1 := fun X W h hv => mbytes_any s X W h hfc.1 hfc.2 hv
  have hbk2 : E = 0 → Pl.mbytes s = (b, 0) := fun h => hbk s (by rw [h])
  obtain ⟨⟨B, F⟩, hBF⟩ : ∃ x, Pl.mbytes s = x := ⟨_, rfl⟩
  rw [hBF] at p1 hbk2
  have HG := Lib.hid (And.intro g1 (And.intro g2 (And.intro s1 (And.intro p1 hbk2))))
  clear g1 g2 s1 p1 hbk hbk2 hcs hfc hG hBF
  go_enter Tryz.func3, Tryz.ntmps3
  go_wp2_with fail
  (with_reducible refine (HAL.out _ HV.out.tab).mono ?_)
  rintro e w0 ⟨v, rfl, rfl, hb0'⟩
  go_wp2_with fail
  (with_reducible refine (HG.out.1 _ (HV.out.keep hb0' (Nat.le_refl _))).mono ?_)
  rintro e w1 ⟨v, rfl, ⟨X1, rfl, hok1, -⟩, hb1⟩
  replace hb1 := hb0'.trans (hb1.mono hb0'.size)
  clear hb0'
  have hl1 : (snL s X1).toArray.size = 41 := by rw [List.size_toArray]; exact snL_len hok1
  have ho1 : (snL s X1).toArray.all (·.oneCell') = true := all_oneCell_toArray (snL_one _ _)
  obtain ⟨L1, hL1⟩ : ∃ L, snL s X1 = L := ⟨_, rfl⟩
  (try simp only)
  rw [hL1] at hl1 ho1 ⊢
  have H1 := Lib.hid (And.intro hL1 (And.intro hl1 (And.intro ho1 (And.intro (show (Tryz.prog.info? 29).map (·.size) = some L1.toArray.size by rw [hl1]; exact info_snap) (show (Tryz.prog.info? 29).map (·.size) = some L1.length by rw [← List.size_toArray, hl1]; exact info_snap)))))
  clear hL1 hl1 ho1
  go_upto_region 6 with (with_reducible refine wpList_store_mid rfl 29 _ _ rfl w1.heap.size 0 L1.toArray rfl rfl (there_row (heap_alloc_new _ _) (by rw [H1.out.2.1]; exact Nat.le_of_ble_eq_true rfl)) H1.out.2.2.2.1 H1.out.2.2.1 ?_)
  generalize hW : World.setCells _ _ _ _ = w2
  have hb : Below w1.heap.size w1 w2 := by rw [← hW]; exact ((Below.refl _ _).alloc (Nat.le_refl _) _).trans (Lib.below_setCells_w (Nat.le_refl _) _ _ _)
  have hr1 : w2.rangeAt w1.heap.size 0 L1 := by
    rw [← hW]
    refine World.rangeAt_setCells_same _ _ _ _ (there_row (heap_alloc_new _ _) ?_)
    rw [show L1.toArray.toList.length = 41 by have := H1.out.2.1; simpa using this]; exact Nat.le_of_ble_eq_true rfl
  have hB1 : w1.heap.size < w2.heap.size := by rw [← hW]; exact Nat.lt_of_lt_of_le (by simp) (Lib.below_setCells_w (Nat.le_refl w1.heap.size) _ _ _).size
  clear hW
  replace hok1 := SnOk.below hok1 hb
  replace hb1 := hb1.trans (hb.mono hb1.size)
  clear hb
  obtain ⟨Q1, hQ1⟩ : ∃ h, w1.heap.size = h := ⟨_, rfl⟩
  rw [hQ1] at hr1 hB1 ⊢
  clear hQ1
  go_wp2_with fail
  (with_reducible refine (HG.out.2.1 _).mono ?_)
  rintro e w3 ⟨v, rfl, ⟨X2, rfl, hok2, -⟩, hb3⟩
  replace hr1 : w3.rangeAt Q1 0 L1 := fun j v hv => (hb3.cell (p := ⟨Q1, 0 + j, none⟩) hB1).trans (hr1 j v hv)
  replace hok1 := SnOk.below hok1 hb3
  replace hB1 := Nat.lt_of_lt_of_le hB1 hb3.size
  replace hb1 := hb1.trans (hb3.mono hb1.size)
  clear hb3
  have hl2 : (snL s X2).toArray.size = 41 := by rw [List.size_toArray]; exact snL_len hok2
  have ho2 : (snL s X2).toArray.all (·.oneCell') = true := all_oneCell_toArray (snL_one _ _)
  obtain ⟨L2, hL2⟩ : ∃ L, snL s X2 = L := ⟨_, rfl⟩
  (try simp only)
  rw [hL2] at hl2 ho2 ⊢
  have H2 := Lib.hid (And.intro hL2 (And.intro hl2 (And.intro ho2 (And.intro (show (Tryz.prog.info? 29).map (·.size) = some L2.toArray.size by rw [hl2]; exact info_snap) (show (Tryz.prog.info? 29).map (·.size) = some L2.length by rw [← List.size_toArray, hl2]; exact info_snap)))))
  clear hL2 hl2 ho2
  go_upto_region 7 with (with_reducible refine wpList_store_mid rfl 29 _ _ rfl w3.heap.size 0 L2.toArray rfl rfl (there_row (heap_alloc_new _ _) (by rw [H2.out.2.1]; exact Nat.le_of_ble_eq_true rfl)) H2.out.2.2.2.1 H2.out.2.2.1 ?_)
  generalize hW : World.setCells _ _ _ _ = w4
  have hb : Below w3.heap.size w3 w4 := by rw [← hW]; exact ((Below.refl _ _).alloc (Nat.le_refl _) _).trans (Lib.below_setCells_w (Nat.le_refl _) _ _ _)
  have hr2 : w4.rangeAt w3.heap.size 0 L2 := by
    rw [← hW]
    refine World.rangeAt_setCells_same _ _ _ _ (there_row (heap_alloc_new _ _) ?_)
    rw [show L2.toArray.toList.length = 41 by have := H2.out.2.1; simpa using this]; exact Nat.le_of_ble_eq_true rfl
  have hB2 : w3.heap.size < w4.heap.size := by rw [← hW]; exact Nat.lt_of_lt_of_le (by simp) (Lib.below_setCells_w (Nat.le_refl w3.heap.size) _ _ _).size
  clear hW
  replace hok2 := SnOk.below hok2 hb
  replace hr1 : w4.rangeAt Q1 0 L1 := fun j v hv => (hb.cell (p := ⟨Q1, 0 + j, none⟩) hB1).trans (hr1 j v hv)
  replace hok1 := SnOk.below hok1 hb
  replace hB1 := Nat.lt_of_lt_of_le hB1 hb.size
  replace hb1 := hb1.trans (hb.mono hb1.size)
  clear hb
  obtain ⟨Q2, hQ2⟩ : ∃ h, w3.heap.size = h := ⟨_, rfl⟩
  rw [hQ2] at hr2 hB2 ⊢
  clear hQ2
  have hi2 := H1.out.2.2.2.2
  have hi3 := H2.out.2.2.2.2
  have hEE : ((E : Int) == (E : Int)) = true := by simp
  have hEE' : ((E : Int) != (E : Int)) = false := by simp
  go_wp2_with (first
    | (with_reducible refine wpList_load_mid_g (by with_unfolding_all rfl) 29 _ rfl Q1 0 rfl L1 _ hr1 Tryz.underlying29 rfl hi2 ?_)
    | (with_reducible refine wpList_load_mid_g (by with_unfolding_all rfl) 29 _ rfl Q2 0 rfl L2 _ hr2 Tryz.underlying29 rfl hi3 ?_))
  rw [← H1.out.1, ← H2.out.1]
  (with_reducible refine (HG.out.2.2.1 X1 X2 _ hok1 hok2).mono ?_)
  rintro e w5 ⟨v, rfl, rfl, hb5⟩
  rw [H1.out.1, H2.out.1]
  replace hr1 : w5.rangeAt Q1 0 L1 := fun j v hv => (hb5.cell (p := ⟨Q1, 0 + j, none⟩) hB1).trans (hr1 j v hv)
  replace hok1 := SnOk.below hok1 hb5
  replace hb1 := hb1.trans (hb5.mono hb1.size)
  clear hb5 hr2 hok2 hEE hEE'
  go_wp2_with (with_reducible refine wpList_load_mid rfl 29 _ rfl Q1 0 rfl L1 _ hr1 Tryz.underlying29 rfl hi2 ?_)
  rw [← H1.out.1]
  (with_reducible refine (HG.out.2.2.2.1 X1 _ hok1 (HV.out.tab.keep hb1 (Nat.le_refl _))).mono ?_)
  rintro e w7 ⟨v, rfl, rfl, hb7⟩
  rw [H1.out.1]
  unfold bytesV
  replace hb7 := hb1.trans (hb7.mono hb1.size)
  clear hb1 hr1 hok1
  by_cases hE : E ≠ 0
  · have t1 : ((E : Int) == 0) = false := by rw [beq_eq_false_iff_ne]; omega
    have t1' : ((E : Int) != 0) = true := by unfold bne; rw [t1]; rfl
    go_wp2_with fail
    go_ret
    exact ⟨_, rfl, rfl, hb7⟩
  obtain rfl : E = 0 := by omega
  have hBF := HG.out.2.2.2.2 (by simp)
  injection hBF with h1 h2
  subst h1 h2
  have hBB : (B == B) = true := by simp
  go_wp2_with fail
  go_ret
  exact ⟨_, rfl, rfl, hb7⟩
-- FRAME
set_option maxRecDepth 100000 in
theorem manifestReads_lifted (os : Os) (started : os.Started) (H : Type) (enc : TypeId × Value → H) :
    ReturnsInHanded {} Tryz.checked os 3 .any (fun w args => (Rows.manifestReadsSpec.pre enc Tryz.prog Tryz.f3 [] false w args ∧ laidMetH Tryz.prog tabs5 w) ∧ sizedMet enc Tryz.prog Tryz.f3 (OpenSpec.ofChange Rows.manifestReadsSpec) false w args) (Rows.manifestReadsSpec.post enc Tryz.prog Tryz.f3 false true false false) := by
  refine returnsInHanded_of_change_and (C := Tryz.checked) (X := fun w _ => laidMetH Tryz.prog tabs5 w) (fun _ _ _ hh h => h.of_heap hh) own started (by kernel_rfl) Tryz.func3
    (ChangeSpec.witness_shaped (enc := enc) (C := Tryz.checked) (os := os) (X := fun w _ => laidMetH Tryz.prog tabs5 w) false (World.doorLaid Tryz.prog 100 os) #[.string ⟨#[]⟩] 8 rfl (World.shaped_of_RefB (by kernel_rfl) (by kernel_rfl)) (by kernel_rfl) (by kernel_rfl) (by kernel_rfl) (door_met5 os _)) ?_
  intro W base args ds gs before hval0 hW hcnd hsz0 hL _
  have hvars := vnum_of5 hL
  have hval : ∀ (j : Nat) t v, Tryz.f3.params[j]? = some t → args[j]? = some v → Value.okWide Tryz.prog W .any base t v := hval0
  have hW' := hW
  obtain ⟨p, q, hA0, hV, rfl, hfz, hnd⟩ := hW
  have hA : DataW.TrodAll enc Tryz.prog W 0 (fun _ => true) true Tryz.f3.params.toList args.toList ds p := hA0
  have hsz : (DataW.weightsEach Tryz.prog (Tryz.f3.params.toList ++ Rows.manifestReadsSpec.plain.varTypes Tryz.prog) (ds ++ gs)).all (· ≤ reachBytes) = true := hsz0
  rw [Tryz.params3] at hA hval hsz
  obtain ⟨v0, vs0, d0, ds0, p0, q0, hargs, rfl, rfl, h0, r0⟩ := trodAll_cons hA
  obtain ⟨rfl, rfl, rfl⟩ := trodAll_nil r0
  obtain rfl : args = #[v0] := by cases args; simp_all
  obtain ⟨rfl, rfl⟩ := trodVars_none hV
  have k0 := h0
  have lt0 : ∀ x ∈ p0, x.block < W.heap.size := by obtain ⟨m, hm⟩ := k0; exact DataW.trod_lt m _ _ _ hm
  have hz0 : ∀ m ∈ d0.weights Tryz.prog 9, m ≤ reachBytes := fun m hm => by
    have h1 := List.all_eq_true.1 hsz m (DataW.weights_mem_each (j := 0) rfl rfl m hm)
    simpa using h1
  obtain ⟨l0, rfl, eA0⟩ := open_str (hval 0 9 v0 rfl rfl) h0 hz0
  clear hA0 hval0 hsz0
  refine (manifestReads_walk l0 W (Nat.le_trans eA0 reach_le) hvars).mono fun e W' ⟨v, he, hv, bel⟩ => ?_
  subst he hv
  exact ⟨_, rfl, _, _, _, [], _, [], hW', trodAll_mk1 (shut_bool Tryz.underlying4 _), (trodAll_cons_mk (Below.trod laidOut (by kernel_rfl) (of_decide_eq_true (by kernel_rfl)) k0 bel lt0) trodAll_mk0), rfl, bel.frame _, fun h => by cases h⟩

theorem manifestReads_row : Rows.ManifestReadsSaid :=
  OpenClaim.holds_of_wide 3 Tryz.f3 rfl rfl rfl rfl rfl rfl rfl ⟨rfl, rfl, rfl, rfl, rfl⟩ rfl rfl rfl rfl rfl (by kernel_rfl) Tryz.func3 (by kernel_rfl)
    (of_decide_eq_true (by kernel_rfl)) (by unfold Func.isWrapper; first | (rw [if_pos (by decide +kernel)]; kernel_rfl) | (rw [if_neg (by decide +kernel)]; exact ⟨rfl, rfl⟩))
    (fun os started H enc _ => manifestReads_lifted os started H enc)

theorem manifestReads_holds : Rows.ManifestReadsCardSaid :=
  Claim7.holds_tied_plain_at .later [] [.data, .data, .data, .sentinel, .sentinel] true (true, "667cf67dd3386e7f5976c4bdc4c06e4a12e3e92de3fdffc0d2a030741cb4f583") true
    manifestReads_row (fun _ h => by cases h) (by kernel_rfl) (fun _ h => by cases h) manifestReads_row_tie rfl ⟨rfl, rfl⟩ (by kernel_rfl) rfl
    (fun f fn hf hfn => by
      obtain rfl : f = 3 := Option.some.inj ((show Tryz.prog.funcNamed "hibernacle/hibernaclelaw41.ManifestReads" = some 3 by kernel_rfl).symm.trans hf) |>.symm
      obtain rfl : fn = Tryz.f3 := (Option.some.inj (Tryz.func3.symm.trans hfn)).symm
      exact ⟨by kernel_rfl, fun j t ht => by
        rw [Tryz.params3] at ht
        rcases j with _ | _ | _ | _ | j
        all_goals first
          | (simp at ht; done)
          | (have h3 := Option.some.inj ht; subst h3; exact (show Tryz.prog.wantsStandIn _ = false by kernel_rfl))⟩)
    (by kernel_rfl)
#print axioms manifestReads_holds
end Go.Proofs.YtommlolhpaeioaaGreatDoor
