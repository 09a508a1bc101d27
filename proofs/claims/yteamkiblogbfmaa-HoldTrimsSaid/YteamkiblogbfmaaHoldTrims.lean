/- HoldTrims holds: the snapshots that may go, of any root, and the root without them, are the document's. No condition. -/
import Derived.Test.YteamkiblogbfmaaOpenRt
import Derived.Test.YteamkiblogbfmaaHoldTm
import Derived.Lib.SmallJoins
import Derived.Deep.CutRange
namespace Go.Proofs.Yteamkiblogbfmaa
open Go.ChangeShapes Go.WideShapes Go.ChangeAt Go.RowKit
set_option linter.unusedVariables false
set_option linter.unusedSimpArgs false
set_option maxRecDepth 100000 in
set_option maxHeartbeats 8000000 in
theorem holdTrims_walk (R : Pl.Rt) (s p c : Value) (w : World) (hrt : RtAt w R s p c) (hok : RtOk R) (hfit : ∀ x ∈ R.l, x.m.length ≤ 140737488355328 ∧ x.nm.length ≤ 140737488355328) :
    Calls Try.prog 6 #[rtV R s p c] w (RetB (fun v _ => v = .bool true) w) := by
  have hgreat := fun W (h : RtAt W R s p c) => great50_any s R.l W (by have := hok.l; omega) h.s hfit
  obtain ⟨G, hG⟩ : ∃ G, Pl.great50 R.l = G := ⟨_, rfl⟩
  rw [hG] at hgreat
  obtain ⟨L, hL⟩ : ∃ L, L = rtL R s p c := ⟨_, rfl⟩
  rw [rtV_L, ← hL]
  have H0 := Lib.hid (And.intro hgreat (And.intro hG (And.intro hL (And.intro hrt hok)))); clear hgreat hG hL hrt hok hfit
  go_enter Try.func6, Try.ntmps6
  go_upto_region 1 with (fail)
  generalize hV : World.alloc w _ = V
  obtain ⟨bx, hbV⟩ := rbox_arg H0.out.2.2.1 H0.out.2.2.2.1 hV
  clear hV
  go_wp2_with fail
  refine (alive_any V).mono ?_
  rintro e w1 ⟨v, rfl, rfl, hb1⟩
  have bx1 := bx.below hb1
  have hbw := hbV.trans (hb1.mono hbV.size)
  clear bx hb1 hbV
  have x2 := bx1.refs
  have HB := Lib.hid (And.intro bx1 hbw); clear bx1 hbw
  go_wp2_with fail
  refine (H0.out.1 w1 HB.out.1.rt).mono ?_
  rintro e w2 ⟨rfl, rfl⟩
  cases G
  rotate_left
  · go_wp2_with fail
    go_ret
    exact ⟨_, rfl, rfl, HB.out.2⟩
  have hl60 := Pl.great50_few H0.out.2.1
  obtain ⟨R1, hR1⟩ : ∃ R1 : Pl.Rt, R1 = { R with l := sel false (prs R) } := ⟨_, rfl⟩
  obtain ⟨G1, hG1⟩ : ∃ G1, G1 = sel true (prs R) := ⟨_, rfl⟩
  have hl1 : R1.l.length ≤ 1000000 := by rw [hR1]; have h1 := sel_len false (prs R); rw [prs_len] at h1; simp only; omega
  have hl2 : G1.length ≤ 1000000 := by rw [hG1]; have h1 := sel_len true (prs R); rw [prs_len] at h1; omega
  have htrim := fun W (h : RtAt W R s p c) => trim_own R s p c W hl60 H0.out.2.2.2.2 h
  have hrtrim := fun W (h : RtAt W R s p c) => rtrim_own R s p c W hl60 H0.out.2.2.2.2 h
  have hgone := fun W (h : RtAt W R s p c) => gone_any R s p c W hl60 H0.out.2.2.2.2 h
  have hrgone := fun W (h : RtAt W R s p c) => rgone_any R s p c W hl60 H0.out.2.2.2.2 h
  rw [← hR1] at htrim hrtrim
  rw [← hG1] at hgone hrgone
  rw [rtV_L, ← H0.out.2.2.1] at htrim hrtrim hgone hrgone
  have hpk : R1.pk = R.pk := by rw [hR1]
  have hch : R1.ch = R.ch := by rw [hR1]
  have HH := Lib.hid (And.intro hl60 (And.intro htrim (And.intro hrtrim (And.intro hgone (And.intro hrgone (And.intro hl1 (And.intro hl2 (And.intro hR1 (And.intro hpk hch)))))))))
  clear hl60 htrim hrtrim hgone hrgone hl1 hl2 hR1 hpk hch hG1 x2
  go_upto_region 5 with (fail)
  go_cut [3, 4] from 10 to 14 (fun s3 s4 wx => ∃ b3 b4, s3 = .pointer (some ⟨b3, 0, none⟩) ∧ s4 = .pointer (some ⟨b4, 0, none⟩) ∧ TmF w R s p c L R1 b3 b4 wx)
  case first =>
    have hI : TmI w R s p c L R1 none none none none w1.drew := ⟨H0.out.2.2.2.1, HB.out.1.below (Below.refl _ _).drew, HB.out.2.drew, (fun q e => by cases e), (fun q e => by cases e), (fun q e => by cases e), (fun q e => by cases e), (fun q q' e => by cases e)⟩
    have hif := HB.out.1.info
    refine wp_region_held_drew (S := (fun w' => HeldL w.heap.size L w')) (by kernel_rfl) (by exact ⟨hI.bx.range⟩) (fun hHeld => ?_)
    refine wpAnyH_take (i := 0) (v := .agg (L).toArray) rfl (by kernel_rfl) (by kernel_rfl) (by kernel_rfl) (fun _ _ _ h => h) (yieldsIf_load_mid (by kernel_rfl) 28 _ rfl (w.heap.size) (0) rfl L _ (fun _ h => h.r) Try.underlying28 rfl hif) hHeld ?_
    simp only [Act.put, List.setIfInBounds_toArray, List.set_cons_zero, List.set_cons_succ, List.getElem_toArray, List.getElem_cons_succ, List.getElem_cons_zero]
    refine wpAnyH_take (i := 2) (v := .agg (L).toArray) rfl (by kernel_rfl) (by kernel_rfl) (by kernel_rfl) (fun _ _ _ h => h) (yieldsIf_load_mid (by kernel_rfl) 28 _ rfl (w.heap.size) (0) rfl L _ (fun _ h => h.r) Try.underlying28 rfl hif) hHeld ?_
    simp only [Act.put, List.setIfInBounds_toArray, List.set_cons_zero, List.set_cons_succ, List.getElem_toArray, List.getElem_cons_succ, List.getElem_cons_zero]
    generalize w1.drew = V0 at hI hHeld ⊢
    refine wpAnyH_ready (rs := [1, 4, 5]) (by kernel_rfl) (by simp) ?_
    refine AllReadyH.cons rfl (fun K hK => ?_) ?_
    · skip
      go_simp
      (with_reducible refine (HH.out.2.1 _ hI.rt).mono ?_)
      rintro e V1 ⟨v, rfl, ⟨s1, p1, c1, sv1, rfl, hr1⟩, hb⟩
      replace hI := hI.call1 hb hr1
      clear hb hr1
      obtain ⟨L1, hL1⟩ : ∃ L, L = rtL R1 s1 p1 c1 := ⟨_, rfl⟩
      rw [rtV_L, ← hL1]
      have HL1 := Lib.hid hL1; clear hL1
      refine hK.out _ _ (by exact ⟨hI.bx.range⟩) (fun hHeld => ?_)
      clear hK K
      (try simp only [Act.put, List.setIfInBounds_toArray, List.set_cons_zero, List.set_cons_succ, List.getElem_toArray, List.getElem_cons_succ, List.getElem_cons_zero])
      refine wpAnyH_ready (rs := [3, 4, 5]) (by kernel_rfl) (by simp) ?_
      refine AllReadyH.cons rfl (fun K hK => ?_) ?_
      · skip
        go_simp
        (with_reducible refine (HH.out.2.2.1 _ hI.rt).mono ?_)
        rintro e V2 ⟨v, rfl, ⟨s2, rfl, hr2⟩, hb⟩
        replace hI := hI.call2 hb hr2
        clear hb hr2
        obtain ⟨L2, hL2⟩ : ∃ L, L = rtL R1 s2 p c := ⟨_, rfl⟩
        rw [rtV_L, ← hL2]
        have HL2 := Lib.hid hL2; clear hL2
        refine hK.out _ _ (by exact ⟨hI.bx.range⟩) (fun hHeld => ?_)
        clear hK K
        (try simp only [Act.put, List.setIfInBounds_toArray, List.set_cons_zero, List.set_cons_succ, List.getElem_toArray, List.getElem_cons_succ, List.getElem_cons_zero])
        refine wpAnyH_ready (rs := [4, 5]) (by kernel_rfl) (by simp) ?_
        refine AllReadyH.cons rfl (fun K hK => ?_) ?_
        · skip
          go_simp
          replace hI := hI.alloc3
          generalize hA : World.alloc V2 _ = V3 at hI ⊢
          generalize V2.heap.size = b3 at hI ⊢
          clear hA
          refine hK.out _ _ (by exact ⟨hI.bx.range⟩) (fun hHeld => ?_)
          clear hK K
          (try simp only [Act.put, List.setIfInBounds_toArray, List.set_cons_zero, List.set_cons_succ, List.getElem_toArray, List.getElem_cons_succ, List.getElem_cons_zero])
          refine wpAnyH_ready (rs := [5]) (by kernel_rfl) (by simp) (AllReadyH.cons rfl (fun K hK => ?_) AllReadyH.nil)
          go_simp
          replace hI := hI.alloc4
          generalize hA : World.alloc V3 _ = V4 at hI ⊢
          generalize V3.heap.size = b4 at hI ⊢
          clear hA
          refine hK.out _ _ (by exact ⟨hI.bx.range⟩) (fun hHeld => ?_)
          clear hK K
          (try simp only [Act.put, List.setIfInBounds_toArray, List.set_cons_zero, List.set_cons_succ, List.getElem_toArray, List.getElem_cons_succ, List.getElem_cons_zero])
          refine wpAnyH_ready (rs := [6]) (by kernel_rfl) (by simp) (AllReadyH.cons rfl (fun K hK => ?_) AllReadyH.nil)
          obtain ⟨hF, hF2, hF3, hF4⟩ := hI.stores HL1.out HL2.out HH.out.2.2.2.2.2.2.2.2.1 HH.out.2.2.2.2.2.2.2.2.2
          refine wp_store_mid 28 _ _ rfl b3 0 L1.toArray rfl rfl (there_zL (hI.z3 _ rfl).1 HL1.out) (rtL_info HL1.out) (rtL_one HL1.out (hI.r1 _ rfl).rt) ?_
          refine hK.out _ _ (by exact ⟨hF2⟩) (fun hHeld => ?_)
          clear hK K
          (try simp only [Act.put, List.setIfInBounds_toArray, List.set_cons_zero, List.set_cons_succ, List.getElem_toArray, List.getElem_cons_succ, List.getElem_cons_zero])
          refine wpAnyH_ready (rs := [7]) (by kernel_rfl) (by simp) (AllReadyH.cons rfl (fun K hK => ?_) AllReadyH.nil)
          refine wp_store_mid 28 _ _ rfl b4 0 L2.toArray rfl rfl (there_zL hF3 HL2.out) (rtL_info HL2.out) (rtL_one HL2.out (hI.at2 HH.out.2.2.2.2.2.2.2.2.1 HH.out.2.2.2.2.2.2.2.2.2)) ?_
          refine hK.out _ _ (by exact ⟨hF4⟩) (fun hHeld => ?_)
          clear hK K
          (try simp only [Act.put, List.setIfInBounds_toArray, List.set_cons_zero, List.set_cons_succ, List.getElem_toArray, List.getElem_cons_succ, List.getElem_cons_zero])
          refine wpAnyH_done (by kernel_rfl) ?_ _
          go_wp2_with fail
          go_meet
          case rel => exact ⟨_, _, rfl, rfl, hF⟩
        · skip
          refine AllReadyH.cons rfl (fun K hK => ?_) ?_
          · skip
            go_simp
            replace hI := hI.alloc4
            generalize hA : World.alloc V2 _ = V5 at hI ⊢
            generalize V2.heap.size = b4 at hI ⊢
            clear hA
            refine hK.out _ _ (by exact ⟨hI.bx.range⟩) (fun hHeld => ?_)
            clear hK K
            (try simp only [Act.put, List.setIfInBounds_toArray, List.set_cons_zero, List.set_cons_succ, List.getElem_toArray, List.getElem_cons_succ, List.getElem_cons_zero])
            refine wpAnyH_ready (rs := [4]) (by kernel_rfl) (by simp) (AllReadyH.cons rfl (fun K hK => ?_) AllReadyH.nil)
            go_simp
            replace hI := hI.alloc3
            generalize hA : World.alloc V5 _ = V6 at hI ⊢
            generalize V5.heap.size = b3 at hI ⊢
            clear hA
            refine hK.out _ _ (by exact ⟨hI.bx.range⟩) (fun hHeld => ?_)
            clear hK K
            (try simp only [Act.put, List.setIfInBounds_toArray, List.set_cons_zero, List.set_cons_succ, List.getElem_toArray, List.getElem_cons_succ, List.getElem_cons_zero])
            refine wpAnyH_ready (rs := [6]) (by kernel_rfl) (by simp) (AllReadyH.cons rfl (fun K hK => ?_) AllReadyH.nil)
            obtain ⟨hF, hF2, hF3, hF4⟩ := hI.stores HL1.out HL2.out HH.out.2.2.2.2.2.2.2.2.1 HH.out.2.2.2.2.2.2.2.2.2
            refine wp_store_mid 28 _ _ rfl b3 0 L1.toArray rfl rfl (there_zL (hI.z3 _ rfl).1 HL1.out) (rtL_info HL1.out) (rtL_one HL1.out (hI.r1 _ rfl).rt) ?_
            refine hK.out _ _ (by exact ⟨hF2⟩) (fun hHeld => ?_)
            clear hK K
            (try simp only [Act.put, List.setIfInBounds_toArray, List.set_cons_zero, List.set_cons_succ, List.getElem_toArray, List.getElem_cons_succ, List.getElem_cons_zero])
            refine wpAnyH_ready (rs := [7]) (by kernel_rfl) (by simp) (AllReadyH.cons rfl (fun K hK => ?_) AllReadyH.nil)
            refine wp_store_mid 28 _ _ rfl b4 0 L2.toArray rfl rfl (there_zL hF3 HL2.out) (rtL_info HL2.out) (rtL_one HL2.out (hI.at2 HH.out.2.2.2.2.2.2.2.2.1 HH.out.2.2.2.2.2.2.2.2.2)) ?_
            refine hK.out _ _ (by exact ⟨hF4⟩) (fun hHeld => ?_)
            clear hK K
            (try simp only [Act.put, List.setIfInBounds_toArray, List.set_cons_zero, List.set_cons_succ, List.getElem_toArray, List.getElem_cons_succ, List.getElem_cons_zero])
            refine wpAnyH_done (by kernel_rfl) ?_ _
            go_wp2_with fail
            go_meet
            case rel => exact ⟨_, _, rfl, rfl, hF⟩
          · exact AllReadyH.nil
      · skip
        refine AllReadyH.cons rfl (fun K hK => ?_) ?_
        · skip
          go_simp
          replace hI := hI.alloc3
          generalize hA : World.alloc V1 _ = V7 at hI ⊢
          generalize V1.heap.size = b3 at hI ⊢
          clear hA
          refine hK.out _ _ (by exact ⟨hI.bx.range⟩) (fun hHeld => ?_)
          clear hK K
          (try simp only [Act.put, List.setIfInBounds_toArray, List.set_cons_zero, List.set_cons_succ, List.getElem_toArray, List.getElem_cons_succ, List.getElem_cons_zero])
          refine wpAnyH_ready (rs := [3, 5]) (by kernel_rfl) (by simp) ?_
          refine AllReadyH.cons rfl (fun K hK => ?_) ?_
          · skip
            go_simp
            (with_reducible refine (HH.out.2.2.1 _ hI.rt).mono ?_)
            rintro e V8 ⟨v, rfl, ⟨s2, rfl, hr2⟩, hb⟩
            replace hI := hI.call2 hb hr2
            clear hb hr2
            obtain ⟨L2, hL2⟩ : ∃ L, L = rtL R1 s2 p c := ⟨_, rfl⟩
            rw [rtV_L, ← hL2]
            have HL2 := Lib.hid hL2; clear hL2
            refine hK.out _ _ (by exact ⟨hI.bx.range⟩) (fun hHeld => ?_)
            clear hK K
            (try simp only [Act.put, List.setIfInBounds_toArray, List.set_cons_zero, List.set_cons_succ, List.getElem_toArray, List.getElem_cons_succ, List.getElem_cons_zero])
            refine wpAnyH_ready (rs := [5]) (by kernel_rfl) (by simp) (AllReadyH.cons rfl (fun K hK => ?_) AllReadyH.nil)
            go_simp
            replace hI := hI.alloc4
            generalize hA : World.alloc V8 _ = V9 at hI ⊢
            generalize V8.heap.size = b4 at hI ⊢
            clear hA
            refine hK.out _ _ (by exact ⟨hI.bx.range⟩) (fun hHeld => ?_)
            clear hK K
            (try simp only [Act.put, List.setIfInBounds_toArray, List.set_cons_zero, List.set_cons_succ, List.getElem_toArray, List.getElem_cons_succ, List.getElem_cons_zero])
            refine wpAnyH_ready (rs := [6]) (by kernel_rfl) (by simp) (AllReadyH.cons rfl (fun K hK => ?_) AllReadyH.nil)
            obtain ⟨hF, hF2, hF3, hF4⟩ := hI.stores HL1.out HL2.out HH.out.2.2.2.2.2.2.2.2.1 HH.out.2.2.2.2.2.2.2.2.2
            refine wp_store_mid 28 _ _ rfl b3 0 L1.toArray rfl rfl (there_zL (hI.z3 _ rfl).1 HL1.out) (rtL_info HL1.out) (rtL_one HL1.out (hI.r1 _ rfl).rt) ?_
            refine hK.out _ _ (by exact ⟨hF2⟩) (fun hHeld => ?_)
            clear hK K
            (try simp only [Act.put, List.setIfInBounds_toArray, List.set_cons_zero, List.set_cons_succ, List.getElem_toArray, List.getElem_cons_succ, List.getElem_cons_zero])
            refine wpAnyH_ready (rs := [7]) (by kernel_rfl) (by simp) (AllReadyH.cons rfl (fun K hK => ?_) AllReadyH.nil)
            refine wp_store_mid 28 _ _ rfl b4 0 L2.toArray rfl rfl (there_zL hF3 HL2.out) (rtL_info HL2.out) (rtL_one HL2.out (hI.at2 HH.out.2.2.2.2.2.2.2.2.1 HH.out.2.2.2.2.2.2.2.2.2)) ?_
            refine hK.out _ _ (by exact ⟨hF4⟩) (fun hHeld => ?_)
            clear hK K
            (try simp only [Act.put, List.setIfInBounds_toArray, List.set_cons_zero, List.set_cons_succ, List.getElem_toArray, List.getElem_cons_succ, List.getElem_cons_zero])
            refine wpAnyH_done (by kernel_rfl) ?_ _
            go_wp2_with fail
            go_meet
            case rel => exact ⟨_, _, rfl, rfl, hF⟩
          · skip
            refine AllReadyH.cons rfl (fun K hK => ?_) ?_
            · skip
              go_simp
              replace hI := hI.alloc4
              generalize hA : World.alloc V7 _ = V10 at hI ⊢
              generalize V7.heap.size = b4 at hI ⊢
              clear hA
              refine hK.out _ _ (by exact ⟨hI.bx.range⟩) (fun hHeld => ?_)
              clear hK K
              (try simp only [Act.put, List.setIfInBounds_toArray, List.set_cons_zero, List.set_cons_succ, List.getElem_toArray, List.getElem_cons_succ, List.getElem_cons_zero])
              refine wpAnyH_ready (rs := [3]) (by kernel_rfl) (by simp) (AllReadyH.cons rfl (fun K hK => ?_) AllReadyH.nil)
              go_simp
              (with_reducible refine (HH.out.2.2.1 _ hI.rt).mono ?_)
              rintro e V11 ⟨v, rfl, ⟨s2, rfl, hr2⟩, hb⟩
              replace hI := hI.call2 hb hr2
              clear hb hr2
              obtain ⟨L2, hL2⟩ : ∃ L, L = rtL R1 s2 p c := ⟨_, rfl⟩
              rw [rtV_L, ← hL2]
              have HL2 := Lib.hid hL2; clear hL2
              refine hK.out _ _ (by exact ⟨hI.bx.range⟩) (fun hHeld => ?_)
              clear hK K
              (try simp only [Act.put, List.setIfInBounds_toArray, List.set_cons_zero, List.set_cons_succ, List.getElem_toArray, List.getElem_cons_succ, List.getElem_cons_zero])
              refine wpAnyH_ready (rs := [6]) (by kernel_rfl) (by simp) (AllReadyH.cons rfl (fun K hK => ?_) AllReadyH.nil)
              obtain ⟨hF, hF2, hF3, hF4⟩ := hI.stores HL1.out HL2.out HH.out.2.2.2.2.2.2.2.2.1 HH.out.2.2.2.2.2.2.2.2.2
              refine wp_store_mid 28 _ _ rfl b3 0 L1.toArray rfl rfl (there_zL (hI.z3 _ rfl).1 HL1.out) (rtL_info HL1.out) (rtL_one HL1.out (hI.r1 _ rfl).rt) ?_
              refine hK.out _ _ (by exact ⟨hF2⟩) (fun hHeld => ?_)
              clear hK K
              (try simp only [Act.put, List.setIfInBounds_toArray, List.set_cons_zero, List.set_cons_succ, List.getElem_toArray, List.getElem_cons_succ, List.getElem_cons_zero])
              refine wpAnyH_ready (rs := [7]) (by kernel_rfl) (by simp) (AllReadyH.cons rfl (fun K hK => ?_) AllReadyH.nil)
              refine wp_store_mid 28 _ _ rfl b4 0 L2.toArray rfl rfl (there_zL hF3 HL2.out) (rtL_info HL2.out) (rtL_one HL2.out (hI.at2 HH.out.2.2.2.2.2.2.2.2.1 HH.out.2.2.2.2.2.2.2.2.2)) ?_
              refine hK.out _ _ (by exact ⟨hF4⟩) (fun hHeld => ?_)
              clear hK K
              (try simp only [Act.put, List.setIfInBounds_toArray, List.set_cons_zero, List.set_cons_succ, List.getElem_toArray, List.getElem_cons_succ, List.getElem_cons_zero])
              refine wpAnyH_done (by kernel_rfl) ?_ _
              go_wp2_with fail
              go_meet
              case rel => exact ⟨_, _, rfl, rfl, hF⟩
            · exact AllReadyH.nil
        · skip
          refine AllReadyH.cons rfl (fun K hK => ?_) ?_
          · skip
            go_simp
            replace hI := hI.alloc4
            generalize hA : World.alloc V1 _ = V12 at hI ⊢
            generalize V1.heap.size = b4 at hI ⊢
            clear hA
            refine hK.out _ _ (by exact ⟨hI.bx.range⟩) (fun hHeld => ?_)
            clear hK K
            (try simp only [Act.put, List.setIfInBounds_toArray, List.set_cons_zero, List.set_cons_succ, List.getElem_toArray, List.getElem_cons_succ, List.getElem_cons_zero])
            refine wpAnyH_ready (rs := [3, 4]) (by kernel_rfl) (by simp) ?_
            refine AllReadyH.cons rfl (fun K hK => ?_) ?_
            · skip
              go_simp
              (with_reducible refine (HH.out.2.2.1 _ hI.rt).mono ?_)
              rintro e V13 ⟨v, rfl, ⟨s2, rfl, hr2⟩, hb⟩
              replace hI := hI.call2 hb hr2
              clear hb hr2
              obtain ⟨L2, hL2⟩ : ∃ L, L = rtL R1 s2 p c := ⟨_, rfl⟩
              rw [rtV_L, ← hL2]
              have HL2 := Lib.hid hL2; clear hL2
              refine hK.out _ _ (by exact ⟨hI.bx.range⟩) (fun hHeld => ?_)
              clear hK K
              (try simp only [Act.put, List.setIfInBounds_toArray, List.set_cons_zero, List.set_cons_succ, List.getElem_toArray, List.getElem_cons_succ, List.getElem_cons_zero])
              refine wpAnyH_ready (rs := [4]) (by kernel_rfl) (by simp) (AllReadyH.cons rfl (fun K hK => ?_) AllReadyH.nil)
              go_simp
              replace hI := hI.alloc3
              generalize hA : World.alloc V13 _ = V14 at hI ⊢
              generalize V13.heap.size = b3 at hI ⊢
              clear hA
              refine hK.out _ _ (by exact ⟨hI.bx.range⟩) (fun hHeld => ?_)
              clear hK K
              (try simp only [Act.put, List.setIfInBounds_toArray, List.set_cons_zero, List.set_cons_succ, List.getElem_toArray, List.getElem_cons_succ, List.getElem_cons_zero])
              refine wpAnyH_ready (rs := [6]) (by kernel_rfl) (by simp) (AllReadyH.cons rfl (fun K hK => ?_) AllReadyH.nil)
              obtain ⟨hF, hF2, hF3, hF4⟩ := hI.stores HL1.out HL2.out HH.out.2.2.2.2.2.2.2.2.1 HH.out.2.2.2.2.2.2.2.2.2
              refine wp_store_mid 28 _ _ rfl b3 0 L1.toArray rfl rfl (there_zL (hI.z3 _ rfl).1 HL1.out) (rtL_info HL1.out) (rtL_one HL1.out (hI.r1 _ rfl).rt) ?_
              refine hK.out _ _ (by exact ⟨hF2⟩) (fun hHeld => ?_)
              clear hK K
              (try simp only [Act.put, List.setIfInBounds_toArray, List.set_cons_zero, List.set_cons_succ, List.getElem_toArray, List.getElem_cons_succ, List.getElem_cons_zero])
              refine wpAnyH_ready (rs := [7]) (by kernel_rfl) (by simp) (AllReadyH.cons rfl (fun K hK => ?_) AllReadyH.nil)
              refine wp_store_mid 28 _ _ rfl b4 0 L2.toArray rfl rfl (there_zL hF3 HL2.out) (rtL_info HL2.out) (rtL_one HL2.out (hI.at2 HH.out.2.2.2.2.2.2.2.2.1 HH.out.2.2.2.2.2.2.2.2.2)) ?_
              refine hK.out _ _ (by exact ⟨hF4⟩) (fun hHeld => ?_)
              clear hK K
              (try simp only [Act.put, List.setIfInBounds_toArray, List.set_cons_zero, List.set_cons_succ, List.getElem_toArray, List.getElem_cons_succ, List.getElem_cons_zero])
              refine wpAnyH_done (by kernel_rfl) ?_ _
              go_wp2_with fail
              go_meet
              case rel => exact ⟨_, _, rfl, rfl, hF⟩
            · skip
              refine AllReadyH.cons rfl (fun K hK => ?_) ?_
              · skip
                go_simp
                replace hI := hI.alloc3
                generalize hA : World.alloc V12 _ = V15 at hI ⊢
                generalize V12.heap.size = b3 at hI ⊢
                clear hA
                refine hK.out _ _ (by exact ⟨hI.bx.range⟩) (fun hHeld => ?_)
                clear hK K
                (try simp only [Act.put, List.setIfInBounds_toArray, List.set_cons_zero, List.set_cons_succ, List.getElem_toArray, List.getElem_cons_succ, List.getElem_cons_zero])
                refine wpAnyH_ready (rs := [3]) (by kernel_rfl) (by simp) (AllReadyH.cons rfl (fun K hK => ?_) AllReadyH.nil)
                go_simp
                (with_reducible refine (HH.out.2.2.1 _ hI.rt).mono ?_)
                rintro e V16 ⟨v, rfl, ⟨s2, rfl, hr2⟩, hb⟩
                replace hI := hI.call2 hb hr2
                clear hb hr2
                obtain ⟨L2, hL2⟩ : ∃ L, L = rtL R1 s2 p c := ⟨_, rfl⟩
                rw [rtV_L, ← hL2]
                have HL2 := Lib.hid hL2; clear hL2
                refine hK.out _ _ (by exact ⟨hI.bx.range⟩) (fun hHeld => ?_)
                clear hK K
                (try simp only [Act.put, List.setIfInBounds_toArray, List.set_cons_zero, List.set_cons_succ, List.getElem_toArray, List.getElem_cons_succ, List.getElem_cons_zero])
                refine wpAnyH_ready (rs := [6]) (by kernel_rfl) (by simp) (AllReadyH.cons rfl (fun K hK => ?_) AllReadyH.nil)
                obtain ⟨hF, hF2, hF3, hF4⟩ := hI.stores HL1.out HL2.out HH.out.2.2.2.2.2.2.2.2.1 HH.out.2.2.2.2.2.2.2.2.2
                refine wp_store_mid 28 _ _ rfl b3 0 L1.toArray rfl rfl (there_zL (hI.z3 _ rfl).1 HL1.out) (rtL_info HL1.out) (rtL_one HL1.out (hI.r1 _ rfl).rt) ?_
                refine hK.out _ _ (by exact ⟨hF2⟩) (fun hHeld => ?_)
                clear hK K
                (try simp only [Act.put, List.setIfInBounds_toArray, List.set_cons_zero, List.set_cons_succ, List.getElem_toArray, List.getElem_cons_succ, List.getElem_cons_zero])
                refine wpAnyH_ready (rs := [7]) (by kernel_rfl) (by simp) (AllReadyH.cons rfl (fun K hK => ?_) AllReadyH.nil)
                refine wp_store_mid 28 _ _ rfl b4 0 L2.toArray rfl rfl (there_zL hF3 HL2.out) (rtL_info HL2.out) (rtL_one HL2.out (hI.at2 HH.out.2.2.2.2.2.2.2.2.1 HH.out.2.2.2.2.2.2.2.2.2)) ?_
                refine hK.out _ _ (by exact ⟨hF4⟩) (fun hHeld => ?_)
                clear hK K
                (try simp only [Act.put, List.setIfInBounds_toArray, List.set_cons_zero, List.set_cons_succ, List.getElem_toArray, List.getElem_cons_succ, List.getElem_cons_zero])
                refine wpAnyH_done (by kernel_rfl) ?_ _
                go_wp2_with fail
                go_meet
                case rel => exact ⟨_, _, rfl, rfl, hF⟩
              · exact AllReadyH.nil
          · exact AllReadyH.nil
    · skip
      refine AllReadyH.cons rfl (fun K hK => ?_) ?_
      · skip
        go_simp
        replace hI := hI.alloc3
        generalize hA : World.alloc V0 _ = V17 at hI ⊢
        generalize V0.heap.size = b3 at hI ⊢
        clear hA
        refine hK.out _ _ (by exact ⟨hI.bx.range⟩) (fun hHeld => ?_)
        clear hK K
        (try simp only [Act.put, List.setIfInBounds_toArray, List.set_cons_zero, List.set_cons_succ, List.getElem_toArray, List.getElem_cons_succ, List.getElem_cons_zero])
        refine wpAnyH_ready (rs := [1, 5]) (by kernel_rfl) (by simp) ?_
        refine AllReadyH.cons rfl (fun K hK => ?_) ?_
        · skip
          go_simp
          (with_reducible refine (HH.out.2.1 _ hI.rt).mono ?_)
          rintro e V18 ⟨v, rfl, ⟨s1, p1, c1, sv1, rfl, hr1⟩, hb⟩
          replace hI := hI.call1 hb hr1
          clear hb hr1
          obtain ⟨L1, hL1⟩ : ∃ L, L = rtL R1 s1 p1 c1 := ⟨_, rfl⟩
          rw [rtV_L, ← hL1]
          have HL1 := Lib.hid hL1; clear hL1
          refine hK.out _ _ (by exact ⟨hI.bx.range⟩) (fun hHeld => ?_)
          clear hK K
          (try simp only [Act.put, List.setIfInBounds_toArray, List.set_cons_zero, List.set_cons_succ, List.getElem_toArray, List.getElem_cons_succ, List.getElem_cons_zero])
          refine wpAnyH_ready (rs := [3, 5]) (by kernel_rfl) (by simp) ?_
          refine AllReadyH.cons rfl (fun K hK => ?_) ?_
          · skip
            go_simp
            (with_reducible refine (HH.out.2.2.1 _ hI.rt).mono ?_)
            rintro e V19 ⟨v, rfl, ⟨s2, rfl, hr2⟩, hb⟩
            replace hI := hI.call2 hb hr2
            clear hb hr2
            obtain ⟨L2, hL2⟩ : ∃ L, L = rtL R1 s2 p c := ⟨_, rfl⟩
            rw [rtV_L, ← hL2]
            have HL2 := Lib.hid hL2; clear hL2
            refine hK.out _ _ (by exact ⟨hI.bx.range⟩) (fun hHeld => ?_)
            clear hK K
            (try simp only [Act.put, List.setIfInBounds_toArray, List.set_cons_zero, List.set_cons_succ, List.getElem_toArray, List.getElem_cons_succ, List.getElem_cons_zero])
            refine wpAnyH_ready (rs := [5]) (by kernel_rfl) (by simp) (AllReadyH.cons rfl (fun K hK => ?_) AllReadyH.nil)
            go_simp
            replace hI := hI.alloc4
            generalize hA : World.alloc V19 _ = V20 at hI ⊢
            generalize V19.heap.size = b4 at hI ⊢
            clear hA
            refine hK.out _ _ (by exact ⟨hI.bx.range⟩) (fun hHeld => ?_)
            clear hK K
            (try simp only [Act.put, List.setIfInBounds_toArray, List.set_cons_zero, List.set_cons_succ, List.getElem_toArray, List.getElem_cons_succ, List.getElem_cons_zero])
            refine wpAnyH_ready (rs := [6]) (by kernel_rfl) (by simp) (AllReadyH.cons rfl (fun K hK => ?_) AllReadyH.nil)
            obtain ⟨hF, hF2, hF3, hF4⟩ := hI.stores HL1.out HL2.out HH.out.2.2.2.2.2.2.2.2.1 HH.out.2.2.2.2.2.2.2.2.2
            refine wp_store_mid 28 _ _ rfl b3 0 L1.toArray rfl rfl (there_zL (hI.z3 _ rfl).1 HL1.out) (rtL_info HL1.out) (rtL_one HL1.out (hI.r1 _ rfl).rt) ?_
            refine hK.out _ _ (by exact ⟨hF2⟩) (fun hHeld => ?_)
            clear hK K
            (try simp only [Act.put, List.setIfInBounds_toArray, List.set_cons_zero, List.set_cons_succ, List.getElem_toArray, List.getElem_cons_succ, List.getElem_cons_zero])
            refine wpAnyH_ready (rs := [7]) (by kernel_rfl) (by simp) (AllReadyH.cons rfl (fun K hK => ?_) AllReadyH.nil)
            refine wp_store_mid 28 _ _ rfl b4 0 L2.toArray rfl rfl (there_zL hF3 HL2.out) (rtL_info HL2.out) (rtL_one HL2.out (hI.at2 HH.out.2.2.2.2.2.2.2.2.1 HH.out.2.2.2.2.2.2.2.2.2)) ?_
            refine hK.out _ _ (by exact ⟨hF4⟩) (fun hHeld => ?_)
            clear hK K
            (try simp only [Act.put, List.setIfInBounds_toArray, List.set_cons_zero, List.set_cons_succ, List.getElem_toArray, List.getElem_cons_succ, List.getElem_cons_zero])
            refine wpAnyH_done (by kernel_rfl) ?_ _
            go_wp2_with fail
            go_meet
            case rel => exact ⟨_, _, rfl, rfl, hF⟩
          · skip
            refine AllReadyH.cons rfl (fun K hK => ?_) ?_
            · skip
              go_simp
              replace hI := hI.alloc4
              generalize hA : World.alloc V18 _ = V21 at hI ⊢
              generalize V18.heap.size = b4 at hI ⊢
              clear hA
              refine hK.out _ _ (by exact ⟨hI.bx.range⟩) (fun hHeld => ?_)
              clear hK K
              (try simp only [Act.put, List.setIfInBounds_toArray, List.set_cons_zero, List.set_cons_succ, List.getElem_toArray, List.getElem_cons_succ, List.getElem_cons_zero])
              refine wpAnyH_ready (rs := [3]) (by kernel_rfl) (by simp) (AllReadyH.cons rfl (fun K hK => ?_) AllReadyH.nil)
              go_simp
              (with_reducible refine (HH.out.2.2.1 _ hI.rt).mono ?_)
              rintro e V22 ⟨v, rfl, ⟨s2, rfl, hr2⟩, hb⟩
              replace hI := hI.call2 hb hr2
              clear hb hr2
              obtain ⟨L2, hL2⟩ : ∃ L, L = rtL R1 s2 p c := ⟨_, rfl⟩
              rw [rtV_L, ← hL2]
              have HL2 := Lib.hid hL2; clear hL2
              refine hK.out _ _ (by exact ⟨hI.bx.range⟩) (fun hHeld => ?_)
              clear hK K
              (try simp only [Act.put, List.setIfInBounds_toArray, List.set_cons_zero, List.set_cons_succ, List.getElem_toArray, List.getElem_cons_succ, List.getElem_cons_zero])
              refine wpAnyH_ready (rs := [6]) (by kernel_rfl) (by simp) (AllReadyH.cons rfl (fun K hK => ?_) AllReadyH.nil)
              obtain ⟨hF, hF2, hF3, hF4⟩ := hI.stores HL1.out HL2.out HH.out.2.2.2.2.2.2.2.2.1 HH.out.2.2.2.2.2.2.2.2.2
              refine wp_store_mid 28 _ _ rfl b3 0 L1.toArray rfl rfl (there_zL (hI.z3 _ rfl).1 HL1.out) (rtL_info HL1.out) (rtL_one HL1.out (hI.r1 _ rfl).rt) ?_
              refine hK.out _ _ (by exact ⟨hF2⟩) (fun hHeld => ?_)
              clear hK K
              (try simp only [Act.put, List.setIfInBounds_toArray, List.set_cons_zero, List.set_cons_succ, List.getElem_toArray, List.getElem_cons_succ, List.getElem_cons_zero])
              refine wpAnyH_ready (rs := [7]) (by kernel_rfl) (by simp) (AllReadyH.cons rfl (fun K hK => ?_) AllReadyH.nil)
              refine wp_store_mid 28 _ _ rfl b4 0 L2.toArray rfl rfl (there_zL hF3 HL2.out) (rtL_info HL2.out) (rtL_one HL2.out (hI.at2 HH.out.2.2.2.2.2.2.2.2.1 HH.out.2.2.2.2.2.2.2.2.2)) ?_
              refine hK.out _ _ (by exact ⟨hF4⟩) (fun hHeld => ?_)
              clear hK K
              (try simp only [Act.put, List.setIfInBounds_toArray, List.set_cons_zero, List.set_cons_succ, List.getElem_toArray, List.getElem_cons_succ, List.getElem_cons_zero])
              refine wpAnyH_done (by kernel_rfl) ?_ _
              go_wp2_with fail
              go_meet
              case rel => exact ⟨_, _, rfl, rfl, hF⟩
            · exact AllReadyH.nil
        · skip
          refine AllReadyH.cons rfl (fun K hK => ?_) ?_
          · skip
            go_simp
            replace hI := hI.alloc4
            generalize hA : World.alloc V17 _ = V23 at hI ⊢
            generalize V17.heap.size = b4 at hI ⊢
            clear hA
            refine hK.out _ _ (by exact ⟨hI.bx.range⟩) (fun hHeld => ?_)
            clear hK K
            (try simp only [Act.put, List.setIfInBounds_toArray, List.set_cons_zero, List.set_cons_succ, List.getElem_toArray, List.getElem_cons_succ, List.getElem_cons_zero])
            refine wpAnyH_ready (rs := [1]) (by kernel_rfl) (by simp) (AllReadyH.cons rfl (fun K hK => ?_) AllReadyH.nil)
            go_simp
            (with_reducible refine (HH.out.2.1 _ hI.rt).mono ?_)
            rintro e V24 ⟨v, rfl, ⟨s1, p1, c1, sv1, rfl, hr1⟩, hb⟩
            replace hI := hI.call1 hb hr1
            clear hb hr1
            obtain ⟨L1, hL1⟩ : ∃ L, L = rtL R1 s1 p1 c1 := ⟨_, rfl⟩
            rw [rtV_L, ← hL1]
            have HL1 := Lib.hid hL1; clear hL1
            refine hK.out _ _ (by exact ⟨hI.bx.range⟩) (fun hHeld => ?_)
            clear hK K
            (try simp only [Act.put, List.setIfInBounds_toArray, List.set_cons_zero, List.set_cons_succ, List.getElem_toArray, List.getElem_cons_succ, List.getElem_cons_zero])
            refine wpAnyH_ready (rs := [3]) (by kernel_rfl) (by simp) (AllReadyH.cons rfl (fun K hK => ?_) AllReadyH.nil)
            go_simp
            (with_reducible refine (HH.out.2.2.1 _ hI.rt).mono ?_)
            rintro e V25 ⟨v, rfl, ⟨s2, rfl, hr2⟩, hb⟩
            replace hI := hI.call2 hb hr2
            clear hb hr2
            obtain ⟨L2, hL2⟩ : ∃ L, L = rtL R1 s2 p c := ⟨_, rfl⟩
            rw [rtV_L, ← hL2]
            have HL2 := Lib.hid hL2; clear hL2
            refine hK.out _ _ (by exact ⟨hI.bx.range⟩) (fun hHeld => ?_)
            clear hK K
            (try simp only [Act.put, List.setIfInBounds_toArray, List.set_cons_zero, List.set_cons_succ, List.getElem_toArray, List.getElem_cons_succ, List.getElem_cons_zero])
            refine wpAnyH_ready (rs := [6]) (by kernel_rfl) (by simp) (AllReadyH.cons rfl (fun K hK => ?_) AllReadyH.nil)
            obtain ⟨hF, hF2, hF3, hF4⟩ := hI.stores HL1.out HL2.out HH.out.2.2.2.2.2.2.2.2.1 HH.out.2.2.2.2.2.2.2.2.2
            refine wp_store_mid 28 _ _ rfl b3 0 L1.toArray rfl rfl (there_zL (hI.z3 _ rfl).1 HL1.out) (rtL_info HL1.out) (rtL_one HL1.out (hI.r1 _ rfl).rt) ?_
            refine hK.out _ _ (by exact ⟨hF2⟩) (fun hHeld => ?_)
            clear hK K
            (try simp only [Act.put, List.setIfInBounds_toArray, List.set_cons_zero, List.set_cons_succ, List.getElem_toArray, List.getElem_cons_succ, List.getElem_cons_zero])
            refine wpAnyH_ready (rs := [7]) (by kernel_rfl) (by simp) (AllReadyH.cons rfl (fun K hK => ?_) AllReadyH.nil)
            refine wp_store_mid 28 _ _ rfl b4 0 L2.toArray rfl rfl (there_zL hF3 HL2.out) (rtL_info HL2.out) (rtL_one HL2.out (hI.at2 HH.out.2.2.2.2.2.2.2.2.1 HH.out.2.2.2.2.2.2.2.2.2)) ?_
            refine hK.out _ _ (by exact ⟨hF4⟩) (fun hHeld => ?_)
            clear hK K
            (try simp only [Act.put, List.setIfInBounds_toArray, List.set_cons_zero, List.set_cons_succ, List.getElem_toArray, List.getElem_cons_succ, List.getElem_cons_zero])
            refine wpAnyH_done (by kernel_rfl) ?_ _
            go_wp2_with fail
            go_meet
            case rel => exact ⟨_, _, rfl, rfl, hF⟩
          · exact AllReadyH.nil
      · skip
        refine AllReadyH.cons rfl (fun K hK => ?_) ?_
        · skip
          go_simp
          replace hI := hI.alloc4
          generalize hA : World.alloc V0 _ = V26 at hI ⊢
          generalize V0.heap.size = b4 at hI ⊢
          clear hA
          refine hK.out _ _ (by exact ⟨hI.bx.range⟩) (fun hHeld => ?_)
          clear hK K
          (try simp only [Act.put, List.setIfInBounds_toArray, List.set_cons_zero, List.set_cons_succ, List.getElem_toArray, List.getElem_cons_succ, List.getElem_cons_zero])
          refine wpAnyH_ready (rs := [1, 4]) (by kernel_rfl) (by simp) ?_
          refine AllReadyH.cons rfl (fun K hK => ?_) ?_
          · skip
            go_simp
            (with_reducible refine (HH.out.2.1 _ hI.rt).mono ?_)
            rintro e V27 ⟨v, rfl, ⟨s1, p1, c1, sv1, rfl, hr1⟩, hb⟩
            replace hI := hI.call1 hb hr1
            clear hb hr1
            obtain ⟨L1, hL1⟩ : ∃ L, L = rtL R1 s1 p1 c1 := ⟨_, rfl⟩
            rw [rtV_L, ← hL1]
            have HL1 := Lib.hid hL1; clear hL1
            refine hK.out _ _ (by exact ⟨hI.bx.range⟩) (fun hHeld => ?_)
            clear hK K
            (try simp only [Act.put, List.setIfInBounds_toArray, List.set_cons_zero, List.set_cons_succ, List.getElem_toArray, List.getElem_cons_succ, List.getElem_cons_zero])
            refine wpAnyH_ready (rs := [3, 4]) (by kernel_rfl) (by simp) ?_
            refine AllReadyH.cons rfl (fun K hK => ?_) ?_
            · skip
              go_simp
              (with_reducible refine (HH.out.2.2.1 _ hI.rt).mono ?_)
              rintro e V28 ⟨v, rfl, ⟨s2, rfl, hr2⟩, hb⟩
              replace hI := hI.call2 hb hr2
              clear hb hr2
              obtain ⟨L2, hL2⟩ : ∃ L, L = rtL R1 s2 p c := ⟨_, rfl⟩
              rw [rtV_L, ← hL2]
              have HL2 := Lib.hid hL2; clear hL2
              refine hK.out _ _ (by exact ⟨hI.bx.range⟩) (fun hHeld => ?_)
              clear hK K
              (try simp only [Act.put, List.setIfInBounds_toArray, List.set_cons_zero, List.set_cons_succ, List.getElem_toArray, List.getElem_cons_succ, List.getElem_cons_zero])
              refine wpAnyH_ready (rs := [4]) (by kernel_rfl) (by simp) (AllReadyH.cons rfl (fun K hK => ?_) AllReadyH.nil)
              go_simp
              replace hI := hI.alloc3
              generalize hA : World.alloc V28 _ = V29 at hI ⊢
              generalize V28.heap.size = b3 at hI ⊢
              clear hA
              refine hK.out _ _ (by exact ⟨hI.bx.range⟩) (fun hHeld => ?_)
              clear hK K
              (try simp only [Act.put, List.setIfInBounds_toArray, List.set_cons_zero, List.set_cons_succ, List.getElem_toArray, List.getElem_cons_succ, List.getElem_cons_zero])
              refine wpAnyH_ready (rs := [6]) (by kernel_rfl) (by simp) (AllReadyH.cons rfl (fun K hK => ?_) AllReadyH.nil)
              obtain ⟨hF, hF2, hF3, hF4⟩ := hI.stores HL1.out HL2.out HH.out.2.2.2.2.2.2.2.2.1 HH.out.2.2.2.2.2.2.2.2.2
              refine wp_store_mid 28 _ _ rfl b3 0 L1.toArray rfl rfl (there_zL (hI.z3 _ rfl).1 HL1.out) (rtL_info HL1.out) (rtL_one HL1.out (hI.r1 _ rfl).rt) ?_
              refine hK.out _ _ (by exact ⟨hF2⟩) (fun hHeld => ?_)
              clear hK K
              (try simp only [Act.put, List.setIfInBounds_toArray, List.set_cons_zero, List.set_cons_succ, List.getElem_toArray, List.getElem_cons_succ, List.getElem_cons_zero])
              refine wpAnyH_ready (rs := [7]) (by kernel_rfl) (by simp) (AllReadyH.cons rfl (fun K hK => ?_) AllReadyH.nil)
              refine wp_store_mid 28 _ _ rfl b4 0 L2.toArray rfl rfl (there_zL hF3 HL2.out) (rtL_info HL2.out) (rtL_one HL2.out (hI.at2 HH.out.2.2.2.2.2.2.2.2.1 HH.out.2.2.2.2.2.2.2.2.2)) ?_
              refine hK.out _ _ (by exact ⟨hF4⟩) (fun hHeld => ?_)
              clear hK K
              (try simp only [Act.put, List.setIfInBounds_toArray, List.set_cons_zero, List.set_cons_succ, List.getElem_toArray, List.getElem_cons_succ, List.getElem_cons_zero])
              refine wpAnyH_done (by kernel_rfl) ?_ _
              go_wp2_with fail
              go_meet
              case rel => exact ⟨_, _, rfl, rfl, hF⟩
            · skip
              refine AllReadyH.cons rfl (fun K hK => ?_) ?_
              · skip
                go_simp
                replace hI := hI.alloc3
                generalize hA : World.alloc V27 _ = V30 at hI ⊢
                generalize V27.heap.size = b3 at hI ⊢
                clear hA
                refine hK.out _ _ (by exact ⟨hI.bx.range⟩) (fun hHeld => ?_)
                clear hK K
                (try simp only [Act.put, List.setIfInBounds_toArray, List.set_cons_zero, List.set_cons_succ, List.getElem_toArray, List.getElem_cons_succ, List.getElem_cons_zero])
                refine wpAnyH_ready (rs := [3]) (by kernel_rfl) (by simp) (AllReadyH.cons rfl (fun K hK => ?_) AllReadyH.nil)
                go_simp
                (with_reducible refine (HH.out.2.2.1 _ hI.rt).mono ?_)
                rintro e V31 ⟨v, rfl, ⟨s2, rfl, hr2⟩, hb⟩
                replace hI := hI.call2 hb hr2
                clear hb hr2
                obtain ⟨L2, hL2⟩ : ∃ L, L = rtL R1 s2 p c := ⟨_, rfl⟩
                rw [rtV_L, ← hL2]
                have HL2 := Lib.hid hL2; clear hL2
                refine hK.out _ _ (by exact ⟨hI.bx.range⟩) (fun hHeld => ?_)
                clear hK K
                (try simp only [Act.put, List.setIfInBounds_toArray, List.set_cons_zero, List.set_cons_succ, List.getElem_toArray, List.getElem_cons_succ, List.getElem_cons_zero])
                refine wpAnyH_ready (rs := [6]) (by kernel_rfl) (by simp) (AllReadyH.cons rfl (fun K hK => ?_) AllReadyH.nil)
                obtain ⟨hF, hF2, hF3, hF4⟩ := hI.stores HL1.out HL2.out HH.out.2.2.2.2.2.2.2.2.1 HH.out.2.2.2.2.2.2.2.2.2
                refine wp_store_mid 28 _ _ rfl b3 0 L1.toArray rfl rfl (there_zL (hI.z3 _ rfl).1 HL1.out) (rtL_info HL1.out) (rtL_one HL1.out (hI.r1 _ rfl).rt) ?_
                refine hK.out _ _ (by exact ⟨hF2⟩) (fun hHeld => ?_)
                clear hK K
                (try simp only [Act.put, List.setIfInBounds_toArray, List.set_cons_zero, List.set_cons_succ, List.getElem_toArray, List.getElem_cons_succ, List.getElem_cons_zero])
                refine wpAnyH_ready (rs := [7]) (by kernel_rfl) (by simp) (AllReadyH.cons rfl (fun K hK => ?_) AllReadyH.nil)
                refine wp_store_mid 28 _ _ rfl b4 0 L2.toArray rfl rfl (there_zL hF3 HL2.out) (rtL_info HL2.out) (rtL_one HL2.out (hI.at2 HH.out.2.2.2.2.2.2.2.2.1 HH.out.2.2.2.2.2.2.2.2.2)) ?_
                refine hK.out _ _ (by exact ⟨hF4⟩) (fun hHeld => ?_)
                clear hK K
                (try simp only [Act.put, List.setIfInBounds_toArray, List.set_cons_zero, List.set_cons_succ, List.getElem_toArray, List.getElem_cons_succ, List.getElem_cons_zero])
                refine wpAnyH_done (by kernel_rfl) ?_ _
                go_wp2_with fail
                go_meet
                case rel => exact ⟨_, _, rfl, rfl, hF⟩
              · exact AllReadyH.nil
          · skip
            refine AllReadyH.cons rfl (fun K hK => ?_) ?_
            · skip
              go_simp
              replace hI := hI.alloc3
              generalize hA : World.alloc V26 _ = V32 at hI ⊢
              generalize V26.heap.size = b3 at hI ⊢
              clear hA
              refine hK.out _ _ (by exact ⟨hI.bx.range⟩) (fun hHeld => ?_)
              clear hK K
              (try simp only [Act.put, List.setIfInBounds_toArray, List.set_cons_zero, List.set_cons_succ, List.getElem_toArray, List.getElem_cons_succ, List.getElem_cons_zero])
              refine wpAnyH_ready (rs := [1]) (by kernel_rfl) (by simp) (AllReadyH.cons rfl (fun K hK => ?_) AllReadyH.nil)
              go_simp
              (with_reducible refine (HH.out.2.1 _ hI.rt).mono ?_)
              rintro e V33 ⟨v, rfl, ⟨s1, p1, c1, sv1, rfl, hr1⟩, hb⟩
              replace hI := hI.call1 hb hr1
              clear hb hr1
              obtain ⟨L1, hL1⟩ : ∃ L, L = rtL R1 s1 p1 c1 := ⟨_, rfl⟩
              rw [rtV_L, ← hL1]
              have HL1 := Lib.hid hL1; clear hL1
              refine hK.out _ _ (by exact ⟨hI.bx.range⟩) (fun hHeld => ?_)
              clear hK K
              (try simp only [Act.put, List.setIfInBounds_toArray, List.set_cons_zero, List.set_cons_succ, List.getElem_toArray, List.getElem_cons_succ, List.getElem_cons_zero])
              refine wpAnyH_ready (rs := [3]) (by kernel_rfl) (by simp) (AllReadyH.cons rfl (fun K hK => ?_) AllReadyH.nil)
              go_simp
              (with_reducible refine (HH.out.2.2.1 _ hI.rt).mono ?_)
              rintro e V34 ⟨v, rfl, ⟨s2, rfl, hr2⟩, hb⟩
              replace hI := hI.call2 hb hr2
              clear hb hr2
              obtain ⟨L2, hL2⟩ : ∃ L, L = rtL R1 s2 p c := ⟨_, rfl⟩
              rw [rtV_L, ← hL2]
              have HL2 := Lib.hid hL2; clear hL2
              refine hK.out _ _ (by exact ⟨hI.bx.range⟩) (fun hHeld => ?_)
              clear hK K
              (try simp only [Act.put, List.setIfInBounds_toArray, List.set_cons_zero, List.set_cons_succ, List.getElem_toArray, List.getElem_cons_succ, List.getElem_cons_zero])
              refine wpAnyH_ready (rs := [6]) (by kernel_rfl) (by simp) (AllReadyH.cons rfl (fun K hK => ?_) AllReadyH.nil)
              obtain ⟨hF, hF2, hF3, hF4⟩ := hI.stores HL1.out HL2.out HH.out.2.2.2.2.2.2.2.2.1 HH.out.2.2.2.2.2.2.2.2.2
              refine wp_store_mid 28 _ _ rfl b3 0 L1.toArray rfl rfl (there_zL (hI.z3 _ rfl).1 HL1.out) (rtL_info HL1.out) (rtL_one HL1.out (hI.r1 _ rfl).rt) ?_
              refine hK.out _ _ (by exact ⟨hF2⟩) (fun hHeld => ?_)
              clear hK K
              (try simp only [Act.put, List.setIfInBounds_toArray, List.set_cons_zero, List.set_cons_succ, List.getElem_toArray, List.getElem_cons_succ, List.getElem_cons_zero])
              refine wpAnyH_ready (rs := [7]) (by kernel_rfl) (by simp) (AllReadyH.cons rfl (fun K hK => ?_) AllReadyH.nil)
              refine wp_store_mid 28 _ _ rfl b4 0 L2.toArray rfl rfl (there_zL hF3 HL2.out) (rtL_info HL2.out) (rtL_one HL2.out (hI.at2 HH.out.2.2.2.2.2.2.2.2.1 HH.out.2.2.2.2.2.2.2.2.2)) ?_
              refine hK.out _ _ (by exact ⟨hF4⟩) (fun hHeld => ?_)
              clear hK K
              (try simp only [Act.put, List.setIfInBounds_toArray, List.set_cons_zero, List.set_cons_succ, List.getElem_toArray, List.getElem_cons_succ, List.getElem_cons_zero])
              refine wpAnyH_done (by kernel_rfl) ?_ _
              go_wp2_with fail
              go_meet
              case rel => exact ⟨_, _, rfl, rfl, hF⟩
            · exact AllReadyH.nil
        · exact AllReadyH.nil
  case rest =>
    obtain ⟨b3, b4, rfl, rfl, s1, p1, c1, s2, L1, L2, f1, f2, f3, hbw⟩ := hcut
    have i0 := f3.info
    have i1 := f1.info
    have i2 := f2.info
    have hok1 : RtOk R1 := by rw [HH.out.2.2.2.2.2.2.2.1]; exact H0.out.2.2.2.2.sel false
    have hRR : ({ R1 with l := R.l } : Pl.Rt) = R := by rw [HH.out.2.2.2.2.2.2.2.1]
    have HF := Lib.hid (And.intro f1 (And.intro f2 (And.intro f3 (And.intro hbw (And.intro hok1 hRR))))); clear f1 f2 f3 hbw hok1 hRR
    go_upto_region 6 with (fail)
    refine wp_region_held_drew (S := (fun w' => Held3 w.heap.size b3 b4 L L1 L2 s1 s2 w')) (by kernel_rfl) (by exact ⟨HF.out.2.2.1.range, HF.out.1.range, HF.out.2.1.range, HF.out.1.refs, HF.out.2.1.refs⟩) (fun hHeld => ?_)
    refine wpAnyH_take (i := 0) (v := .agg (L).toArray) rfl (by kernel_rfl) (by kernel_rfl) (by kernel_rfl) (fun _ _ _ h => h) (yieldsIf_load_mid (by kernel_rfl) 28 _ rfl (w.heap.size) (0) rfl L _ (fun _ h => h.a) Try.underlying28 rfl i0) hHeld ?_
    simp only [Act.put, List.setIfInBounds_toArray, List.set_cons_zero, List.set_cons_succ, List.getElem_toArray, List.getElem_cons_succ, List.getElem_cons_zero]
    refine wpAnyH_take (i := 2) (v := .agg (L).toArray) rfl (by kernel_rfl) (by kernel_rfl) (by kernel_rfl) (fun _ _ _ h => h) (yieldsIf_load_mid (by kernel_rfl) 28 _ rfl (w.heap.size) (0) rfl L _ (fun _ h => h.a) Try.underlying28 rfl i0) hHeld ?_
    simp only [Act.put, List.setIfInBounds_toArray, List.set_cons_zero, List.set_cons_succ, List.getElem_toArray, List.getElem_cons_succ, List.getElem_cons_zero]
    refine wpAnyH_ready (rs := [1]) (by kernel_rfl) (by simp) (AllReadyH.cons rfl (fun K hK => ?_) AllReadyH.nil)
    go_simp
    (with_reducible refine (HH.out.2.2.2.1 _ (HF.out.2.2.1.rt.below (Below.refl _ _).drew)).mono ?_)
    rintro e V1 ⟨v1, rfl, hg1, hb1⟩
    have hb1 : Below wc.heap.size wc V1 := (Below.refl _ _).drew.trans hb1
    have f1 := HF.out.1.below hb1
    have f2 := HF.out.2.1.below hb1
    have f3 := HF.out.2.2.1.below hb1
    have hbw := HF.out.2.2.2.1.trans (hb1.mono HF.out.2.2.2.1.size)
    refine hK.out _ _ (by exact ⟨f3.range, f1.range, f2.range, f1.refs, f2.refs⟩) (fun hHeld => ?_)
    clear hK K
    (try simp only [Act.put, List.setIfInBounds_toArray, List.set_cons_zero, List.set_cons_succ, List.getElem_toArray, List.getElem_cons_succ, List.getElem_cons_zero])
    refine wpAnyH_ready (rs := [3]) (by kernel_rfl) (by simp) (AllReadyH.cons rfl (fun K hK => ?_) AllReadyH.nil)
    go_simp
    (with_reducible refine (HH.out.2.2.2.2.1 _ f3.rt).mono ?_)
    rintro e V2 ⟨v2, rfl, hg2, hb2⟩
    unfold RefsOut at hg1 hg2
    replace hg1 := own_below hg1 hb2
    replace f1 := f1.below hb2
    replace f2 := f2.below hb2
    replace f3 := f3.below hb2
    replace hbw := hbw.trans (hb2.mono hbw.size)
    clear hb1 hb2
    refine hK.out _ _ (by exact ⟨f3.range, f1.range, f2.range, f1.refs, f2.refs⟩) (fun hHeld => ?_)
    clear hK K
    (try simp only [Act.put, List.setIfInBounds_toArray, List.set_cons_zero, List.set_cons_succ, List.getElem_toArray, List.getElem_cons_succ, List.getElem_cons_zero])
    refine wpAnyH_ready (rs := [4]) (by kernel_rfl) (by simp) (AllReadyH.cons rfl (fun K hK => ?_) AllReadyH.nil)
    go_simp
    (with_reducible refine (rrefs_same v1 v2 G1 V2 HH.out.2.2.2.2.2.2.1 (SlV.own hg1) (SlV.own hg2)).mono ?_)
    rintro e V3 ⟨v, rfl, rfl, hb3⟩
    clear hg1 hg2
    replace f1 := f1.below hb3
    replace f2 := f2.below hb3
    replace f3 := f3.below hb3
    replace hbw := hbw.trans (hb3.mono hbw.size)
    clear hb3
    refine hK.out _ _ (by exact ⟨f3.range, f1.range, f2.range, f1.refs, f2.refs⟩) (fun hHeld => ?_)
    clear hK K
    (try simp only [Act.put, List.setIfInBounds_toArray, List.set_cons_zero, List.set_cons_succ, List.getElem_toArray, List.getElem_cons_succ, List.getElem_cons_zero])
    refine wpAnyH_take (i := 5) (v := ?_) rfl (by kernel_rfl) (by kernel_rfl) (by kernel_rfl) (fun _ _ _ h => h) (Or.inl ⟨by kernel_rfl, ?_⟩) hHeld ?_
    rotate_left
    · (intro w' hSw; obtain ⟨hS0, hS1, hS2, hS3, hS4⟩ := hSw; go_simp; try with_reducible rfl)
    simp only [Act.put, List.setIfInBounds_toArray, List.set_cons_zero, List.set_cons_succ, List.getElem_toArray, List.getElem_cons_succ, List.getElem_cons_zero]
    refine wpAnyH_take (i := 6) (v := ?_) rfl (by kernel_rfl) (by kernel_rfl) (by kernel_rfl) (fun _ _ _ h => h) (Or.inl ⟨by kernel_rfl, ?_⟩) hHeld ?_
    rotate_left
    · (intro w' hSw; obtain ⟨hS0, hS1, hS2, hS3, hS4⟩ := hSw; go_simp; try with_reducible rfl)
    simp only [Act.put, List.setIfInBounds_toArray, List.set_cons_zero, List.set_cons_succ, List.getElem_toArray, List.getElem_cons_succ, List.getElem_cons_zero]
    refine wpAnyH_take (i := 7) (v := ?_) rfl (by kernel_rfl) (by kernel_rfl) (by kernel_rfl) (fun _ _ _ h => h) (Or.inl ⟨by kernel_rfl, ?_⟩) hHeld ?_
    rotate_left
    · (intro w' hSw; obtain ⟨hS0, hS1, hS2, hS3, hS4⟩ := hSw; go_simp; try with_reducible rfl)
    simp only [Act.put, List.setIfInBounds_toArray, List.set_cons_zero, List.set_cons_succ, List.getElem_toArray, List.getElem_cons_succ, List.getElem_cons_zero]
    refine wpAnyH_take (i := 8) (v := ?_) rfl (by kernel_rfl) (by kernel_rfl) (by kernel_rfl) (fun _ _ _ h => h) (Or.inl ⟨by kernel_rfl, ?_⟩) hHeld ?_
    rotate_left
    · (intro w' hSw; obtain ⟨hS0, hS1, hS2, hS3, hS4⟩ := hSw; go_simp; try with_reducible rfl)
    simp only [Act.put, List.setIfInBounds_toArray, List.set_cons_zero, List.set_cons_succ, List.getElem_toArray, List.getElem_cons_succ, List.getElem_cons_zero]
    refine wpAnyH_take (i := 9) (v := ?_) rfl (by kernel_rfl) (by kernel_rfl) (by kernel_rfl) (fun _ _ _ h => h) (Or.inl ⟨by kernel_rfl, ?_⟩) hHeld ?_
    rotate_left
    · (intro w' hSw; obtain ⟨hS0, hS1, hS2, hS3, hS4⟩ := hSw; go_simp; try with_reducible rfl)
    simp only [Act.put, List.setIfInBounds_toArray, List.set_cons_zero, List.set_cons_succ, List.getElem_toArray, List.getElem_cons_succ, List.getElem_cons_zero]
    refine wpAnyH_ready (rs := [10]) (by kernel_rfl) (by simp) (AllReadyH.cons rfl (fun K hK => ?_) AllReadyH.nil)
    go_simp
    (with_reducible refine (rrefs_same s1 s2 R1.l V3 HH.out.2.2.2.2.2.1 f1.rt.s f2.rt.s).mono ?_)
    rintro e V4 ⟨v, rfl, rfl, hb3⟩
    replace f1 := f1.below hb3
    replace f2 := f2.below hb3
    replace f3 := f3.below hb3
    replace hbw := hbw.trans (hb3.mono hbw.size)
    clear hb3
    refine hK.out _ _ (by exact ⟨f3.range, f1.range, f2.range, f1.refs, f2.refs⟩) (fun hHeld => ?_)
    clear hK K
    (try simp only [Act.put, List.setIfInBounds_toArray, List.set_cons_zero, List.set_cons_succ, List.getElem_toArray, List.getElem_cons_succ, List.getElem_cons_zero])
    refine wpAnyH_take (i := 11) (v := ?_) rfl (by kernel_rfl) (by kernel_rfl) (by kernel_rfl) (fun _ _ _ h => h) (Or.inl ⟨by kernel_rfl, ?_⟩) hHeld ?_
    rotate_left
    · (intro w' hSw; obtain ⟨hS0, hS1, hS2, hS3, hS4⟩ := hSw; go_simp; try with_reducible rfl)
    simp only [Act.put, List.setIfInBounds_toArray, List.set_cons_zero, List.set_cons_succ, List.getElem_toArray, List.getElem_cons_succ, List.getElem_cons_zero]
    refine wpAnyH_take (i := 12) (v := ?_) rfl (by kernel_rfl) (by kernel_rfl) (by kernel_rfl) (fun _ _ _ h => h) (Or.inl ⟨by kernel_rfl, ?_⟩) hHeld ?_
    rotate_left
    · (intro w' hSw; obtain ⟨hS0, hS1, hS2, hS3, hS4⟩ := hSw; go_simp; try with_reducible rfl)
    simp only [Act.put, List.setIfInBounds_toArray, List.set_cons_zero, List.set_cons_succ, List.getElem_toArray, List.getElem_cons_succ, List.getElem_cons_zero]
    refine wpAnyH_take (i := 13) (v := .agg (L1).toArray) rfl (by kernel_rfl) (by kernel_rfl) (by kernel_rfl) (fun _ _ _ h => h) (yieldsIf_load_mid (by kernel_rfl) 28 _ rfl (b3) (0) rfl L1 _ (fun _ h => h.b) Try.underlying28 rfl i1) hHeld ?_
    simp only [Act.put, List.setIfInBounds_toArray, List.set_cons_zero, List.set_cons_succ, List.getElem_toArray, List.getElem_cons_succ, List.getElem_cons_zero]
    refine wpAnyH_take (i := 14) (v := .agg (L).toArray) rfl (by kernel_rfl) (by kernel_rfl) (by kernel_rfl) (fun _ _ _ h => h) (yieldsIf_load_mid (by kernel_rfl) 28 _ rfl (w.heap.size) (0) rfl L _ (fun _ h => h.a) Try.underlying28 rfl i0) hHeld ?_
    simp only [Act.put, List.setIfInBounds_toArray, List.set_cons_zero, List.set_cons_succ, List.getElem_toArray, List.getElem_cons_succ, List.getElem_cons_zero]
    have hal := alike_any R1 R.l s1 p1 c1 s p c V4 HF.out.2.2.2.2.1 f1.rt (by rw [HF.out.2.2.2.2.2]; exact f3.rt)
    rw [f1.val, show rtV R1 s p c = .agg L.toArray from by rw [HH.out.2.2.2.2.2.2.2.1]; exact f3.val] at hal
    refine wpAnyH_ready (rs := [15]) (by kernel_rfl) (by simp) (AllReadyH.cons rfl (fun K hK => ?_) AllReadyH.nil)
    go_simp
    (with_reducible refine hal.mono ?_)
    rintro e V5 ⟨v, rfl, rfl, hb3⟩
    clear hal
    replace f1 := f1.below hb3
    replace f2 := f2.below hb3
    replace f3 := f3.below hb3
    replace hbw := hbw.trans (hb3.mono hbw.size)
    clear hb3
    refine hK.out _ _ (by exact ⟨f3.range, f1.range, f2.range, f1.refs, f2.refs⟩) (fun hHeld => ?_)
    clear hK K
    (try simp only [Act.put, List.setIfInBounds_toArray, List.set_cons_zero, List.set_cons_succ, List.getElem_toArray, List.getElem_cons_succ, List.getElem_cons_zero])
    refine wpAnyH_take (i := 16) (v := ?_) rfl (by kernel_rfl) (by kernel_rfl) (by kernel_rfl) (fun _ _ _ h => h) (Or.inl ⟨by kernel_rfl, ?_⟩) hHeld ?_
    rotate_left
    · (intro w' hSw; obtain ⟨hS0, hS1, hS2, hS3, hS4⟩ := hSw; go_simp; try with_reducible rfl)
    simp only [Act.put, List.setIfInBounds_toArray, List.set_cons_zero, List.set_cons_succ, List.getElem_toArray, List.getElem_cons_succ, List.getElem_cons_zero]
    refine wpAnyH_take (i := 17) (v := ?_) rfl (by kernel_rfl) (by kernel_rfl) (by kernel_rfl) (fun _ _ _ h => h) (Or.inl ⟨by kernel_rfl, ?_⟩) hHeld ?_
    rotate_left
    · (intro w' hSw; obtain ⟨hS0, hS1, hS2, hS3, hS4⟩ := hSw; go_simp; try with_reducible rfl)
    simp only [Act.put, List.setIfInBounds_toArray, List.set_cons_zero, List.set_cons_succ, List.getElem_toArray, List.getElem_cons_succ, List.getElem_cons_zero]
    refine wpAnyH_done (by kernel_rfl) ?_ _
    go_wp2_with fail
    go_ret
    exact ⟨_, rfl, rfl, hbw⟩
-- FRAME
set_option maxRecDepth 100000 in
theorem holdTrims_lifted (os : Os) (started : os.Started) (H : Type) (enc : TypeId × Value → H) :
    ReturnsInHanded {} Try.checked os 6 .any (Rows.holdTrimsSpec.pre6 enc Try.prog Try.f6 Rows.holdTrimsRow.domain false) (Rows.holdTrimsSpec.post enc Try.prog Try.f6 false true false false) := by
  refine returnsInHanded_of_change_sized (C := Try.checked) own started (by kernel_rfl) Try.func6
    (ChangeSpec.witness6 (enc := enc) (C := Try.checked) false ⟨#[], #[.agg #[.int .i64 0, .int .i64 0, .slice none 0 0, .slice none 0 0, .int .i64 0, .int .i64 0, .int .i64 0, .int .i64 0, .slice none 0 0]], []⟩ 8 (by kernel_rfl) (by kernel_rfl) (by kernel_rfl) (by kernel_rfl)) ?_
  intro W base args ds gs before hval0 hW hcnd hsz0 _
  have hval : ∀ (j : Nat) t v, Try.f6.params[j]? = some t → args[j]? = some v → Value.okWide Try.prog W .any base t v := hval0
  have hW' := hW
  obtain ⟨p, q, hA0, hV, rfl, hfz, hnd⟩ := hW
  have hA : DataW.TrodAll enc Try.prog W 0 (fun _ => true) true Try.f6.params.toList args.toList ds p := hA0
  have hsz : (DataW.weightsEach Try.prog (Try.f6.params.toList ++ Rows.holdTrimsSpec.plain.varTypes Try.prog) (ds ++ gs)).all (· ≤ reachBytes) = true := hsz0
  rw [Try.params6] at hA hval hsz
  obtain ⟨v0, vs0, d0, ds0, p0, q0, hargs, rfl, rfl, h0, r0⟩ := trodAll_cons hA
  obtain ⟨rfl, rfl, rfl⟩ := trodAll_nil r0
  obtain rfl : args = #[v0] := by cases args; simp_all
  obtain ⟨rfl, rfl⟩ := trodVars_none hV
  have k0 := h0
  have lt0 : ∀ x ∈ p0, x.block < W.heap.size := by obtain ⟨m, hm⟩ := k0; exact DataW.trod_lt m _ _ _ hm
  have hz0 : ∀ m ∈ d0.weights Try.prog 28, m ≤ reachBytes := fun m hm => by
    have h1 := List.all_eq_true.1 hsz m (DataW.weights_mem_each (j := 0) rfl rfl m hm)
    simpa using h1
  obtain ⟨R0, s0, p0, c0, rfl, eA0, eB0, eC0⟩ := open_root (hval 0 28 v0 rfl rfl) h0 hz0
  clear hA0 hval0 hsz0
  refine (holdTrims_walk R0 s0 p0 c0 W eA0 eB0 eC0).mono fun e W' ⟨v, he, hv, bel⟩ => ?_
  subst he hv
  exact ⟨_, rfl, _, _, _, [], _, [], hW', trodAll_mk1 (shut_bool Try.underlying4 _), (trodAll_cons_mk (Below.trod laidOut (by kernel_rfl) (of_decide_eq_true (by kernel_rfl)) k0 bel lt0) trodAll_mk0), rfl, bel.frame _, fun h => by cases h⟩

theorem holdTrims_holds : Rows.HoldTrimsSaid :=
  OpenClaim.holds_of_wide 6 Try.f6 rfl rfl rfl rfl rfl rfl rfl ⟨rfl, rfl, rfl, rfl, rfl⟩ rfl rfl rfl rfl rfl (by kernel_rfl) Try.func6 (by kernel_rfl)
    (of_decide_eq_true (by kernel_rfl)) (by unfold Func.isWrapper; first | (rw [if_pos (by decide +kernel)]; kernel_rfl) | (rw [if_neg (by decide +kernel)]; exact ⟨rfl, rfl⟩))
    (fun os started H enc _ => holdTrims_lifted os started H enc)
#print axioms holdTrims_holds
end Go.Proofs.Yteamkiblogbfmaa
