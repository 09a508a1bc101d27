/- The order in which snapshots stand plays no part in which a policy keeps. For every policy, all snapshots and every minute. -/
import Derived.Test.YtmncgnmgdkdhaaaGreatDoorPolLaid
import Derived.Test.YtmncgnmgdkdhaaaGreatDoorShaped
import Derived.Test.YtmncgnmgdkdhaaaGreatDoorTie
import Derived.Test.YtmncgnmgdkdhaaaGreatDoorCards
import Derived.Test.YtmncgnmgdkdhaaaGreatDoorPolBy
namespace Go.Proofs.YtmncgnmgdkdhaaaGreatDoor
open Go.ChangeShapes Go.WideShapes Go.ChangeAt Go.RowKit
set_option linter.unusedVariables false
set_option linter.unusedSimpArgs false
theorem keepD_rev (p : Pl.Pol) (l : List Pl.Rf) (now : Int) : Pl.keepD p l.reverse now = (Pl.keepD p l now).reverse := by
  rw [keepD_map, keepD_map, List.map_reverse]
  congr 1
  exact List.map_congr_left fun x _ => keepF_rev p l now x
theorem rev_take {l : List Pl.Rf} {k : Nat} (hk : k < l.length) : l.reverse.take (k + 1) = l.reverse.take k ++ [l.getD (l.length - 1 - k) default] := by
  rw [List.take_succ_eq_append_getElem (by simpa using hk), List.getElem_reverse, List.getD_eq_getElem?_getD, List.getElem?_eq_getElem (by omega)]
  rfl
theorem rev_at {K : List Bool} {k : Nat} (hk : k < K.length) : K.reverse.getD (K.length - 1 - k) false = K.getD k false := by
  rw [List.getD_eq_getElem?_getD, List.getD_eq_getElem?_getD, List.getElem?_reverse (by omega)]
  congr 2; omega
set_option maxRecDepth 100000 in
set_option maxHeartbeats 8000000 in
theorem policyTurned_walk (p : Pl.Pol) (s : Value) (l : List Pl.Rf) (now : Int) (w : World) (hpi : I64 p.d ∧ I64 p.w ∧ I64 p.mo ∧ I64 p.y) (hs : RfsIn w s l) (hnow : I64 now) (hv : VPol w) :
    Calls Tryz.prog 7 #[polV p, .agg #[s, .int .i64 now]] w (RetB (fun v _ => v = .bool true) w) := by
  have hal := fun W h => alive_any W h
  have hgr := fun W h => great49_any s l W h
  have hkp := fun l' s' W h1 h2 h3 => keep_in p l' now s' W h1 h2 h3
  obtain ⟨A, c, rfl, hr, hA0, hbig, hfit⟩ := id hs
  have hpv : polV p = .agg #[.int .i64 p.d, .int .i64 p.w, .int .i64 p.mo, .int .i64 p.y] := rfl
  rw [hpv]
  obtain ⟨n, hn⟩ : ∃ n, l.length = n := ⟨_, rfl⟩
  rw [hn] at hgr hr hs hbig ⊢
  have hnb : n ≤ 140737488355328 := by omega
  obtain ⟨G, hG⟩ : ∃ G, Pl.great49 l = G := ⟨_, rfl⟩
  rw [hG] at hgr
  have HH := Lib.hid (And.intro hal (And.intro hgr (And.intro hkp (And.intro hs (And.intro hfit (And.intro hn (And.intro hG hv)))))))
  clear hal hgr hkp hs hfit hG hv hpv hr hA0 hpi hnow hbig hn
  go_enter Tryz.func7, Tryz.ntmps7
  go_wp2_with fail
  generalize hV : World.alloc (World.alloc w _) _ = V
  have hbV : Below w.heap.size w V := by rw [← hV]; exact ((Below.refl _ _).alloc (Nat.le_refl _) _).alloc (by simp) _
  have h1 : V.heap[w.heap.size]? = some (.cells #[.int .i64 p.d, .int .i64 p.w, .int .i64 p.mo, .int .i64 p.y] 23 (0, 0)) := by rw [← hV]; exact (Below.heap_alloc _ _ _ (by simp)).trans (heap_alloc_new w _)
  have h2 : V.heap[w.heap.size + 1]? = some (.cells #[.slice A n c, .int .i64 now] 34 (0, 0)) := by rw [← hV]; exact heap_alloc_2 w _ _
  have hpb := PB.of_rows h1 h2
  have hsz := blk_lt h2
  clear hV h1 h2
  refine (HH.out.1 _ (VPol.keep HH.out.2.2.2.2.2.2.2 hbV (Nat.le_refl _))).mono ?_
  rintro e w1 ⟨v, rfl, rfl, hb1⟩
  replace hpb := hpb.below hb1
  replace hbV := hbV.trans (hb1.mono hbV.size)
  replace hsz := Nat.lt_of_lt_of_le hsz hb1.size
  clear hb1
  have b0 := hpb.b0
  go_wp2_with fail
  refine (HH.out.2.1 _ (HH.out.2.2.2.1.keep hbV (Nat.le_refl _))).mono ?_
  rintro e w2 ⟨v, rfl, rfl, hb2⟩
  replace hpb := hpb.below hb2
  replace hbV := hbV.trans (hb2.mono hbV.size)
  replace hsz := Nat.lt_of_lt_of_le hsz hb2.size
  clear hb2 b0
  have b0 := hpb.b0
  cases hGe : G
  rotate_left
  · rw [if_pos rfl]
    clear hpb
    go_wp2_with fail
    go_ret
    exact ⟨_, rfl, rfl, hbV⟩
  · have hl50 : l.length ≤ 50 := Pl.great49_few (HH.out.2.2.2.2.2.2.1.trans hGe)
    have hn50 : n ≤ 50 := by rw [← HH.out.2.2.2.2.2.1]; exact hl50
    clear hGe hl50
    rw [if_neg (by simp)]
    go_wp2_with fail
    have hown0 : w2.ownsRow w2.heap.size 39 5 (.slice none 0 0) 0 [] := ⟨rfl, .inl ⟨rfl, rfl⟩⟩
    obtain ⟨B0, hB0⟩ : ∃ B0, w2.heap.size = B0 := ⟨_, rfl⟩
    rw [hB0] at hown0 hsz
    have hBw : B0 ≤ w2.heap.size := by omega
    have hBV := hbV.size
    have hw0 : w.heap.size ≤ B0 := by omega
    clear hBV hB0
    go_loopw [6, 23] (fun v i wr => ∃ k : Nat, k ≤ n ∧ i = .int .i64 k ∧ wr.ownsRow B0 39 5 v k (rfCs (l.reverse.take k)) ∧ PB w.heap.size (w.heap.size + 1) p (.slice A n c) now wr ∧ Below w.heap.size w wr ∧ B0 ≤ wr.heap.size) (fun _ i _ => n - (intOf i).toNat)
    case atStart => exact ⟨0, by omega, rfl, hown0, hpb, hbV, hBw⟩
    case round =>
      clear hown0 hpb hbV hBw b0
      obtain ⟨k, hk, rfl, hown, hpb, hb, hB⟩ := hrel
      by_cases hkn : k < n
      · obtain ⟨m, hm⟩ : ∃ m : Nat, n - 1 - k = m := ⟨_, rfl⟩
        have hmn : m < n := by omega
        obtain ⟨A', c', e, hr, -⟩ := HH.out.2.2.2.1
        injection e with e1 e2 e3
        subst e1 e3
        obtain ⟨b, off, hA, hbw, hrf⟩ := (by rw [HH.out.2.2.2.2.2.1] at hr; exact (hr.keep hb (Nat.le_refl _)).rf HH.out.2.2.2.2.2.1 hmn : ∃ b off, A = some ⟨b, off, none⟩ ∧ _)
        subst hA
        obtain ⟨y, hy⟩ : ∃ y, l.getD m default = y := ⟨_, rfl⟩
        obtain ⟨c0, c1, c2, c3, c4⟩ := hrf y hy
        have hlm : l.reverse.take (k + 1) = l.reverse.take k ++ [y] := by
          rw [rev_take (by rw [HH.out.2.2.2.2.2.1]; exact hkn), HH.out.2.2.2.2.2.1, hm, hy]
        have w1 : IntKind.i64.wrap ((n : Int) - 1) = (n : Int) - 1 := IntWalk.i64_in _ (by omega)
        have w2' : IntKind.i64.wrap ((n : Int) - 1 - (k : Int)) = (m : Int) := by rw [IntWalk.i64_in _ (by omega)]; omega
        have k0 : (0 : Int) ≤ (k : Int) := by omega
        have k1 : (k : Int) < (n : Int) := by omega
        have m0 : (0 : Int) ≤ (m : Int) := by omega
        have m1 : (m : Int) < (n : Int) := by omega
        obtain ⟨A2, c2', rfl⟩ := own_form' hown
        have b0 := hpb.b0
        have HK := Lib.hid (And.intro hown (And.intro hpb (And.intro hb (And.intro hlm hB)))); clear hown hpb hb hlm hrf hy hr hm e2
        obtain ⟨ym, yn, yt, ynm, ytil⟩ := y
        dsimp only at c0 c1 c2 c3 c4
        go_wp2_with (at_builtin; refine push_many rfl (.tmp 26) (.tmp 35) 32 rfl B0 39 (.agg #[.string ⟨#[]⟩, .int .i64 0, .int .i64 0, .string ⟨#[]⟩, .int .i64 0]) 5 56 Tryz.underlying32 info_ref (by decide) (by decide) _ _ k (rfCs (l.reverse.take k)) (some ⟨wr.heap.size, 0, none⟩) 1 1 (rfC ⟨ym, yn, yt, ynm, ytil⟩) rfl (HK.out.1.alloc _) rfl ⟨rfl, fun _ => ⟨wr.heap.size, 0, rfl, by simp, fun j hj => by rw [Nat.zero_add, cell_row _ wr.heap.size j _ _ (heap_alloc_new wr _)]; simp [rfC]⟩⟩ (fun h => by cases h) (rfC_one _) (by omega) (by omega) (by have := HK.out.2.2.2.2; simp; omega) ?_; intro v1 w2 hown1 hb2; obtain ⟨A3, c3', rfl⟩ := own_form' hown1)
        have hb9 : Below B0 wr w2 := ((Below.refl B0 wr).alloc hB _).trans hb2
        refine ⟨⟨k + 1, by omega, by rw [Int.natCast_add]; rfl, ?_, HK.out.2.1.keep hb9 (by omega) (by omega), HK.out.2.2.1.trans (hb9.mono hw0), Nat.le_trans hB hb9.size⟩, by simp [intOf]; omega⟩
        rw [HK.out.2.2.2.1, rfCs_snoc]; exact hown1
      · obtain rfl : k = n := by omega
        have htk : l.reverse.take k = l.reverse := List.take_of_length_le (by rw [List.length_reverse, HH.out.2.2.2.2.2.1]; exact Nat.le_refl _)
        rw [htk] at hown
        obtain ⟨A2, c2', hv2, hr2⟩ := own_rd hown
        subst hv2
        have hlr : l.reverse.length = k := by rw [List.length_reverse]; exact HH.out.2.2.2.2.2.1
        have hk1 := fun W h => HH.out.2.2.1 l (.slice A k c) W (by rw [HH.out.2.2.2.2.2.1]; omega) h HH.out.2.2.2.2.1
        have hk2 := fun W h => HH.out.2.2.1 l.reverse (.slice A2 k c2') W (by rw [hlr]; omega) h (fun x hx => HH.out.2.2.2.2.1 x (List.mem_reverse.1 hx))
        rw [HH.out.2.2.2.2.2.1] at hk1
        rw [hlr, keepD_rev] at hk2
        obtain ⟨K, hK⟩ : ∃ K, Pl.keepD p l now = K := ⟨_, rfl⟩
        have hKl : K.length = k := by rw [← hK, Pl.keepD_len]; exact HH.out.2.2.2.2.2.1
        rw [hK] at hk1 hk2
        have hs1 := HH.out.2.2.2.1.keep hb (Nat.le_refl _)
        obtain ⟨A', c', e, hr1, -⟩ := id hs1
        injection e with e1 e2 e3
        subst e1 e3
        rw [HH.out.2.2.2.2.2.1] at hr1
        have HK := Lib.hid (And.intro hk1 (And.intro hk2 (And.intro hr1 (And.intro hr2 (And.intro hKl (And.intro hb hpb)))))); clear hk1 hk2 hr1 hr2 hKl hb hs1 hown htk hlr hK e2
        go_upto_region 12 with (fail)
        refine wp_region_held_drew (S := (fun w' => PB w.heap.size (w.heap.size + 1) p (.slice A k c) now w')) (by kernel_rfl) (by exact HK.out.2.2.2.2.2.2.below (Below.refl _ _).drew) (fun hHeld => ?_)
        have hr1 := HK.out.2.2.1.drew
        have hr2 := HK.out.2.2.2.1.drew
        have hbd := HK.out.2.2.2.2.2.1.drew
        clear hpb
        generalize hW1 : wr.drew = W1 at hHeld hbd hr1 hr2 ⊢
        clear hW1
        refine wpAnyH_take (i := 0) (v := ?_) rfl (by kernel_rfl) (by kernel_rfl) (by kernel_rfl) (fun _ _ _ h => h) (Or.inl ⟨by kernel_rfl, ?_⟩) hHeld ?_
        rotate_left
        · (intro w' hSw; obtain ⟨hS0, hS1, hS2, hS3, hS4, hS5⟩ := hSw; go_simp; try with_reducible rfl)
        simp only [Act.put, List.setIfInBounds_toArray, List.set_cons_zero, List.set_cons_succ, List.getElem_toArray, List.getElem_cons_succ, List.getElem_cons_zero]
        refine wpAnyH_take (i := 1) (v := ?_) rfl (by kernel_rfl) (by kernel_rfl) (by kernel_rfl) (fun _ _ _ h => h) (Or.inl ⟨by kernel_rfl, ?_⟩) hHeld ?_
        rotate_left
        · (intro w' hSw; obtain ⟨hS0, hS1, hS2, hS3, hS4, hS5⟩ := hSw; go_simp; try with_reducible rfl)
        simp only [Act.put, List.setIfInBounds_toArray, List.set_cons_zero, List.set_cons_succ, List.getElem_toArray, List.getElem_cons_succ, List.getElem_cons_zero]
        refine wpAnyH_take (i := 2) (v := ?_) rfl (by kernel_rfl) (by kernel_rfl) (by kernel_rfl) (fun _ _ _ h => h) (Or.inl ⟨by kernel_rfl, ?_⟩) hHeld ?_
        rotate_left
        · (intro w' hSw; obtain ⟨hS0, hS1, hS2, hS3, hS4, hS5⟩ := hSw; go_simp; try with_reducible rfl)
        simp only [Act.put, List.setIfInBounds_toArray, List.set_cons_zero, List.set_cons_succ, List.getElem_toArray, List.getElem_cons_succ, List.getElem_cons_zero]
        refine wpAnyH_take (i := 3) (v := ?_) rfl (by kernel_rfl) (by kernel_rfl) (by kernel_rfl) (fun _ _ _ h => h) (Or.inl ⟨by kernel_rfl, ?_⟩) hHeld ?_
        rotate_left
        · (intro w' hSw; obtain ⟨hS0, hS1, hS2, hS3, hS4, hS5⟩ := hSw; go_simp; try with_reducible rfl)
        simp only [Act.put, List.setIfInBounds_toArray, List.set_cons_zero, List.set_cons_succ, List.getElem_toArray, List.getElem_cons_succ, List.getElem_cons_zero]
        refine wpAnyH_take (i := 4) (v := ?_) rfl (by kernel_rfl) (by kernel_rfl) (by kernel_rfl) (fun _ _ _ h => h) (Or.inl ⟨by kernel_rfl, ?_⟩) hHeld ?_
        rotate_left
        · (intro w' hSw; obtain ⟨hS0, hS1, hS2, hS3, hS4, hS5⟩ := hSw; go_simp; try with_reducible rfl)
        simp only [Act.put, List.setIfInBounds_toArray, List.set_cons_zero, List.set_cons_succ, List.getElem_toArray, List.getElem_cons_succ, List.getElem_cons_zero]
        refine wpAnyH_take (i := 6) (v := ?_) rfl (by kernel_rfl) (by kernel_rfl) (by kernel_rfl) (fun _ _ _ h => h) (Or.inl ⟨by kernel_rfl, ?_⟩) hHeld ?_
        rotate_left
        · (intro w' hSw; obtain ⟨hS0, hS1, hS2, hS3, hS4, hS5⟩ := hSw; go_simp; try with_reducible rfl)
        simp only [Act.put, List.setIfInBounds_toArray, List.set_cons_zero, List.set_cons_succ, List.getElem_toArray, List.getElem_cons_succ, List.getElem_cons_zero]
        refine wpAnyH_take (i := 7) (v := ?_) rfl (by kernel_rfl) (by kernel_rfl) (by kernel_rfl) (fun _ _ _ h => h) (Or.inl ⟨by kernel_rfl, ?_⟩) hHeld ?_
        rotate_left
        · (intro w' hSw; obtain ⟨hS0, hS1, hS2, hS3, hS4, hS5⟩ := hSw; go_simp; try with_reducible rfl)
        simp only [Act.put, List.setIfInBounds_toArray, List.set_cons_zero, List.set_cons_succ, List.getElem_toArray, List.getElem_cons_succ, List.getElem_cons_zero]
        refine wpAnyH_take (i := 8) (v := ?_) rfl (by kernel_rfl) (by kernel_rfl) (by kernel_rfl) (fun _ _ _ h => h) (Or.inl ⟨by kernel_rfl, ?_⟩) hHeld ?_
        rotate_left
        · (intro w' hSw; obtain ⟨hS0, hS1, hS2, hS3, hS4, hS5⟩ := hSw; go_simp; try with_reducible rfl)
        simp only [Act.put, List.setIfInBounds_toArray, List.set_cons_zero, List.set_cons_succ, List.getElem_toArray, List.getElem_cons_succ, List.getElem_cons_zero]
        refine wpAnyH_take (i := 9) (v := ?_) rfl (by kernel_rfl) (by kernel_rfl) (by kernel_rfl) (fun _ _ _ h => h) (Or.inl ⟨by kernel_rfl, ?_⟩) hHeld ?_
        rotate_left
        · (intro w' hSw; obtain ⟨hS0, hS1, hS2, hS3, hS4, hS5⟩ := hSw; go_simp; try with_reducible rfl)
        simp only [Act.put, List.setIfInBounds_toArray, List.set_cons_zero, List.set_cons_succ, List.getElem_toArray, List.getElem_cons_succ, List.getElem_cons_zero]
        refine wpAnyH_ready (rs := [5]) (by kernel_rfl) (by simp) (AllReadyH.cons rfl (fun K hK => ?_) AllReadyH.nil)
        go_simp
        refine (HK.out.1 _ ⟨_, _, rfl, hr1⟩).mono ?_
        rintro e W2 ⟨v, rfl, ⟨ba, rfl, hba, hka⟩, hb2⟩
        have hp2 := hHeld.below hb2
        replace hbd := hbd.trans (hb2.mono hbd.size)
        replace hr2 := hr2.below hb2
        clear hHeld hb2 hr1
        refine hK.out _ _ (by exact hp2) (fun hHeld => ?_)
        clear hK K
        (try simp only [Act.put, List.setIfInBounds_toArray, List.set_cons_zero, List.set_cons_succ, List.getElem_toArray, List.getElem_cons_succ, List.getElem_cons_zero])
        clear hp2
        refine wpAnyH_ready (rs := [10]) (by kernel_rfl) (by simp) (AllReadyH.cons rfl (fun K hK => ?_) AllReadyH.nil)
        go_simp
        refine (HK.out.2.1 _ ⟨_, _, rfl, hr2⟩).mono ?_
        rintro e W3 ⟨v, rfl, ⟨bb, rfl, hbb, hkb⟩, hb3⟩
        have hp3 := hHeld.below hb3
        replace hbd := hbd.trans (hb3.mono hbd.size)
        replace hka := (hb3.block _ (blk_lt hka)).trans hka
        clear hHeld hb3 hr2
        refine hK.out _ _ (by exact hp3) (fun hHeld => ?_)
        clear hK K
        (try simp only [Act.put, List.setIfInBounds_toArray, List.set_cons_zero, List.set_cons_succ, List.getElem_toArray, List.getElem_cons_succ, List.getElem_cons_zero])
        clear hp3
        refine wpAnyH_take (i := 11) (v := ?_) rfl (by kernel_rfl) (by kernel_rfl) (by kernel_rfl) (fun _ _ _ h => h) (Or.inl ⟨by kernel_rfl, ?_⟩) hHeld ?_
        rotate_left
        · (intro w' hSw; (try dsimp only at hSw); go_simp; try with_reducible rfl)
        simp only [Act.put, List.setIfInBounds_toArray, List.set_cons_zero, List.set_cons_succ, List.getElem_toArray, List.getElem_cons_succ, List.getElem_cons_zero]
        refine wpAnyH_take (i := 12) (v := ?_) rfl (by kernel_rfl) (by kernel_rfl) (by kernel_rfl) (fun _ _ _ h => h) (Or.inl ⟨by kernel_rfl, ?_⟩) hHeld ?_
        rotate_left
        · (intro w' hSw; (try dsimp only at hSw); go_simp; try with_reducible rfl)
        simp only [Act.put, List.setIfInBounds_toArray, List.set_cons_zero, List.set_cons_succ, List.getElem_toArray, List.getElem_cons_succ, List.getElem_cons_zero]
        refine wpAnyH_done (by kernel_rfl) ?_ _
        go_wp2_with fail
        clear hHeld hba hbb
        go_loopw [51] (fun i wq => ∃ j : Nat, j ≤ k ∧ i = .int .i64 j ∧ wq.heap[ba]? = some (.cells (bools K).toArray 4 (0, 0)) ∧ wq.heap[bb]? = some (.cells (bools K.reverse).toArray 4 (0, 0)) ∧ Below w.heap.size w wq) (fun i _ => k - (intOf i).toNat)
        case atStart => exact ⟨0, by omega, rfl, hka, hkb, hbd⟩
        case round =>
          clear hka hkb hbd
          obtain ⟨j, hj, rfl, hka, hkb, hbd⟩ := hrel
          by_cases hjk : j < k
          · obtain ⟨m, hm⟩ : ∃ m : Nat, k - 1 - j = m := ⟨_, rfl⟩
            have hmn : m < k := by omega
            have hx := rev_at (K := K) (k := j) (by rw [HK.out.2.2.2.2.1]; exact hjk)
            rw [HK.out.2.2.2.2.1, hm] at hx
            obtain ⟨x, hxe⟩ : ∃ x, K.getD j false = x := ⟨_, rfl⟩
            rw [hxe] at hx
            have ca : wr.cell? ⟨ba, j, none⟩ = some (.bool x) := by rw [cell_row wr ba j _ _ hka, bools_get K j (by rw [HK.out.2.2.2.2.1]; exact hjk), hxe]
            have cb : wr.cell? ⟨bb, m, none⟩ = some (.bool x) := by rw [cell_row wr bb m _ _ hkb, bools_get K.reverse m (by rw [List.length_reverse, HK.out.2.2.2.2.1]; exact hmn), hx]
            have w1 : IntKind.i64.wrap ((k : Int) - 1) = (k : Int) - 1 := IntWalk.i64_in _ (by omega)
            have w2' : IntKind.i64.wrap ((k : Int) - 1 - (j : Int)) = (m : Int) := by rw [IntWalk.i64_in _ (by omega)]; omega
            have j0 : (0 : Int) ≤ (j : Int) := by omega
            have j1 : (j : Int) < (k : Int) := by omega
            have m0 : (0 : Int) ≤ (m : Int) := by omega
            have m1 : (m : Int) < (k : Int) := by omega
            have HR := Lib.hid (And.intro hka (And.intro hkb hbd)); clear hka hkb hbd hx hxe hm
            go_upto_region 16 with (fail)
            refine wp_region_held_drew (S := (fun w' => w'.cell? ⟨ba, j, none⟩ = some (.bool x) ∧ w'.cell? ⟨bb, m, none⟩ = some (.bool x))) (by kernel_rfl) (by exact ⟨ca, cb⟩) (fun hHeld => ?_)
            refine wpAnyH_take (i := 0) (v := ?_) rfl (by kernel_rfl) (by kernel_rfl) (by kernel_rfl) (fun _ _ _ h => h) (Or.inl ⟨by kernel_rfl, ?_⟩) hHeld ?_
            rotate_left
            · (intro w' hSw; (try dsimp only at hSw); (try obtain ⟨hS0, hS1⟩ := hSw); go_simp; try with_reducible rfl)
            simp only [Act.put, List.setIfInBounds_toArray, List.set_cons_zero, List.set_cons_succ, List.getElem_toArray, List.getElem_cons_succ, List.getElem_cons_zero]
            refine wpAnyH_take (i := 1) (v := ?_) rfl (by kernel_rfl) (by kernel_rfl) (by kernel_rfl) (fun _ _ _ h => h) (Or.inl ⟨by kernel_rfl, ?_⟩) hHeld ?_
            rotate_left
            · (intro w' hSw; (try dsimp only at hSw); (try obtain ⟨hS0, hS1⟩ := hSw); go_simp; try with_reducible rfl)
            simp only [Act.put, List.setIfInBounds_toArray, List.set_cons_zero, List.set_cons_succ, List.getElem_toArray, List.getElem_cons_succ, List.getElem_cons_zero]
            refine wpAnyH_take (i := 2) (v := ?_) rfl (by kernel_rfl) (by kernel_rfl) (by kernel_rfl) (fun _ _ _ h => h) (Or.inl ⟨by kernel_rfl, ?_⟩) hHeld ?_
            rotate_left
            · (intro w' hSw; (try dsimp only at hSw); (try obtain ⟨hS0, hS1⟩ := hSw); go_simp; try with_reducible rfl)
            simp only [Act.put, List.setIfInBounds_toArray, List.set_cons_zero, List.set_cons_succ, List.getElem_toArray, List.getElem_cons_succ, List.getElem_cons_zero]
            refine wpAnyH_take (i := 3) (v := ?_) rfl (by kernel_rfl) (by kernel_rfl) (by kernel_rfl) (fun _ _ _ h => h) (Or.inl ⟨by kernel_rfl, ?_⟩) hHeld ?_
            rotate_left
            · (intro w' hSw; (try dsimp only at hSw); (try obtain ⟨hS0, hS1⟩ := hSw); go_simp; try with_reducible rfl)
            simp only [Act.put, List.setIfInBounds_toArray, List.set_cons_zero, List.set_cons_succ, List.getElem_toArray, List.getElem_cons_succ, List.getElem_cons_zero]
            refine wpAnyH_take (i := 4) (v := ?_) rfl (by kernel_rfl) (by kernel_rfl) (by kernel_rfl) (fun _ _ _ h => h) (Or.inl ⟨by kernel_rfl, ?_⟩) hHeld ?_
            rotate_left
            · (intro w' hSw; (try dsimp only at hSw); (try obtain ⟨hS0, hS1⟩ := hSw); go_simp; try with_reducible rfl)
            simp only [Act.put, List.setIfInBounds_toArray, List.set_cons_zero, List.set_cons_succ, List.getElem_toArray, List.getElem_cons_succ, List.getElem_cons_zero]
            refine wpAnyH_take (i := 5) (v := ?_) rfl (by kernel_rfl) (by kernel_rfl) (by kernel_rfl) (fun _ _ _ h => h) (Or.inl ⟨by kernel_rfl, ?_⟩) hHeld ?_
            rotate_left
            · (intro w' hSw; (try dsimp only at hSw); (try obtain ⟨hS0, hS1⟩ := hSw); go_simp; try with_reducible rfl)
            simp only [Act.put, List.setIfInBounds_toArray, List.set_cons_zero, List.set_cons_succ, List.getElem_toArray, List.getElem_cons_succ, List.getElem_cons_zero]
            refine wpAnyH_take (i := 6) (v := ?_) rfl (by kernel_rfl) (by kernel_rfl) (by kernel_rfl) (fun _ _ _ h => h) (Or.inl ⟨by kernel_rfl, ?_⟩) hHeld ?_
            rotate_left
            · (intro w' hSw; (try dsimp only at hSw); (try obtain ⟨hS0, hS1⟩ := hSw); go_simp; try with_reducible rfl)
            simp only [Act.put, List.setIfInBounds_toArray, List.set_cons_zero, List.set_cons_succ, List.getElem_toArray, List.getElem_cons_succ, List.getElem_cons_zero]
            refine wpAnyH_take (i := 7) (v := ?_) rfl (by kernel_rfl) (by kernel_rfl) (by kernel_rfl) (fun _ _ _ h => h) (Or.inl ⟨by kernel_rfl, ?_⟩) hHeld ?_
            rotate_left
            · (intro w' hSw; (try dsimp only at hSw); (try obtain ⟨hS0, hS1⟩ := hSw); go_simp; try with_reducible rfl)
            simp only [Act.put, List.setIfInBounds_toArray, List.set_cons_zero, List.set_cons_succ, List.getElem_toArray, List.getElem_cons_succ, List.getElem_cons_zero]
            refine wpAnyH_take (i := 8) (v := ?_) rfl (by kernel_rfl) (by kernel_rfl) (by kernel_rfl) (fun _ _ _ h => h) (Or.inl ⟨by kernel_rfl, ?_⟩) hHeld ?_
            rotate_left
            · (intro w' hSw; (try dsimp only at hSw); (try obtain ⟨hS0, hS1⟩ := hSw); go_simp; try with_reducible rfl)
            simp only [Act.put, List.setIfInBounds_toArray, List.set_cons_zero, List.set_cons_succ, List.getElem_toArray, List.getElem_cons_succ, List.getElem_cons_zero]
            refine wpAnyH_take (i := 9) (v := ?_) rfl (by kernel_rfl) (by kernel_rfl) (by kernel_rfl) (fun _ _ _ h => h) (Or.inl ⟨by kernel_rfl, ?_⟩) hHeld ?_
            rotate_left
            · (intro w' hSw; (try dsimp only at hSw); (try obtain ⟨hS0, hS1⟩ := hSw); go_simp; try with_reducible rfl)
            simp only [Act.put, List.setIfInBounds_toArray, List.set_cons_zero, List.set_cons_succ, List.getElem_toArray, List.getElem_cons_succ, List.getElem_cons_zero]
            refine wpAnyH_take (i := 10) (v := ?_) rfl (by kernel_rfl) (by kernel_rfl) (by kernel_rfl) (fun _ _ _ h => h) (Or.inl ⟨by kernel_rfl, ?_⟩) hHeld ?_
            rotate_left
            · (intro w' hSw; (try dsimp only at hSw); (try obtain ⟨hS0, hS1⟩ := hSw); go_simp; try with_reducible rfl)
            simp only [Act.put, List.setIfInBounds_toArray, List.set_cons_zero, List.set_cons_succ, List.getElem_toArray, List.getElem_cons_succ, List.getElem_cons_zero]
            refine wpAnyH_take (i := 11) (v := ?_) rfl (by kernel_rfl) (by kernel_rfl) (by kernel_rfl) (fun _ _ _ h => h) (Or.inl ⟨by kernel_rfl, ?_⟩) hHeld ?_
            rotate_left
            · (intro w' hSw; (try dsimp only at hSw); (try obtain ⟨hS0, hS1⟩ := hSw); go_simp; try with_reducible rfl)
            simp only [Act.put, List.setIfInBounds_toArray, List.set_cons_zero, List.set_cons_succ, List.getElem_toArray, List.getElem_cons_succ, List.getElem_cons_zero]
            refine wpAnyH_take (i := 12) (v := ?_) rfl (by kernel_rfl) (by kernel_rfl) (by kernel_rfl) (fun _ _ _ h => h) (Or.inl ⟨by kernel_rfl, ?_⟩) hHeld ?_
            rotate_left
            · (intro w' hSw; (try dsimp only at hSw); (try obtain ⟨hS0, hS1⟩ := hSw); go_simp; try with_reducible rfl)
            simp only [Act.put, List.setIfInBounds_toArray, List.set_cons_zero, List.set_cons_succ, List.getElem_toArray, List.getElem_cons_succ, List.getElem_cons_zero]
            refine wpAnyH_take (i := 13) (v := ?_) rfl (by kernel_rfl) (by kernel_rfl) (by kernel_rfl) (fun _ _ _ h => h) (Or.inl ⟨by kernel_rfl, ?_⟩) hHeld ?_
            rotate_left
            · (intro w' hSw; (try dsimp only at hSw); (try obtain ⟨hS0, hS1⟩ := hSw); go_simp; try with_reducible rfl)
            simp only [Act.put, List.setIfInBounds_toArray, List.set_cons_zero, List.set_cons_succ, List.getElem_toArray, List.getElem_cons_succ, List.getElem_cons_zero]
            refine wpAnyH_take (i := 14) (v := ?_) rfl (by kernel_rfl) (by kernel_rfl) (by kernel_rfl) (fun _ _ _ h => h) (Or.inl ⟨by kernel_rfl, ?_⟩) hHeld ?_
            rotate_left
            · (intro w' hSw; (try dsimp only at hSw); (try obtain ⟨hS0, hS1⟩ := hSw); go_simp; try with_reducible rfl)
            simp only [Act.put, List.setIfInBounds_toArray, List.set_cons_zero, List.set_cons_succ, List.getElem_toArray, List.getElem_cons_succ, List.getElem_cons_zero]
            refine wpAnyH_take (i := 15) (v := ?_) rfl (by kernel_rfl) (by kernel_rfl) (by kernel_rfl) (fun _ _ _ h => h) (Or.inl ⟨by kernel_rfl, ?_⟩) hHeld ?_
            rotate_left
            · (intro w' hSw; (try dsimp only at hSw); (try obtain ⟨hS0, hS1⟩ := hSw); go_simp; try with_reducible rfl)
            simp only [Act.put, List.setIfInBounds_toArray, List.set_cons_zero, List.set_cons_succ, List.getElem_toArray, List.getElem_cons_succ, List.getElem_cons_zero]
            refine wpAnyH_take (i := 16) (v := ?_) rfl (by kernel_rfl) (by kernel_rfl) (by kernel_rfl) (fun _ _ _ h => h) (Or.inl ⟨by kernel_rfl, ?_⟩) hHeld ?_
            rotate_left
            · (intro w' hSw; (try dsimp only at hSw); (try obtain ⟨hS0, hS1⟩ := hSw); go_simp; try with_reducible rfl)
            simp only [Act.put, List.setIfInBounds_toArray, List.set_cons_zero, List.set_cons_succ, List.getElem_toArray, List.getElem_cons_succ, List.getElem_cons_zero]
            refine wpAnyH_take (i := 17) (v := ?_) rfl (by kernel_rfl) (by kernel_rfl) (by kernel_rfl) (fun _ _ _ h => h) (Or.inl ⟨by kernel_rfl, ?_⟩) hHeld ?_
            rotate_left
            · (intro w' hSw; (try dsimp only at hSw); (try obtain ⟨hS0, hS1⟩ := hSw); go_simp; try with_reducible rfl)
            simp only [Act.put, List.setIfInBounds_toArray, List.set_cons_zero, List.set_cons_succ, List.getElem_toArray, List.getElem_cons_succ, List.getElem_cons_zero]
            refine wpAnyH_done (by kernel_rfl) ?_ _
            go_wp2_with fail
            exact ⟨⟨j + 1, by omega, by rw [Int.natCast_add]; rfl, HR.out.1, HR.out.2.1, HR.out.2.2.drew⟩, by simp [intOf]; omega⟩
          · obtain rfl : j = k := by omega
            go_wp2_with fail
            go_ret
            exact ⟨_, rfl, rfl, hbd⟩
-- FRAME
set_option maxRecDepth 100000 in
theorem policyTurned_lifted (os : Os) (started : os.Started) (H : Type) (enc : TypeId × Value → H) :
    ReturnsInHanded {} Tryz.checked os 7 .any (fun w args => (Rows.policyTurnedSpec.pre enc Tryz.prog Tryz.f7 [] false w args ∧ laidMetH Tryz.prog tabs7 w) ∧ sizedMet enc Tryz.prog Tryz.f7 (OpenSpec.ofChange Rows.policyTurnedSpec) false w args) (Rows.policyTurnedSpec.post enc Tryz.prog Tryz.f7 false true false false) := by
  refine handed_and_shaped (C := Tryz.checked) (X := fun w _ => laidMetH Tryz.prog tabs7 w) (fun _ _ _ hh h => h.of_heap hh) own started (by kernel_rfl) Tryz.func7
    (ChangeSpec.witness_shaped (enc := enc) (C := Tryz.checked) (os := os) (X := fun w _ => laidMetH Tryz.prog tabs7 w) false (World.laidAll Tryz.prog os tabs7) #[.agg #[.int .i64 0, .int .i64 0, .int .i64 0, .int .i64 0], .agg #[.slice none 0 0, .int .i64 0]] 8 (World.laidAll_os _ _ _) (door_shaped7 os) (by kernel_rfl) (by kernel_rfl) (by kernel_rfl) (door_met7 os _)) ?_
  intro W base args ds gs before hval0 hW hcnd hsz0 hL hsh _
  have hvars := vpol_of7 hL hsh
  have hval : ∀ (j : Nat) t v, Tryz.f7.params[j]? = some t → args[j]? = some v → Value.okWide Tryz.prog W .any base t v := hval0
  have hW' := hW
  obtain ⟨p, q, hA0, hV, rfl, hfz, hnd⟩ := hW
  have hA : DataW.TrodAll enc Tryz.prog W 0 (fun _ => true) true Tryz.f7.params.toList args.toList ds p := hA0
  have hsz : (DataW.weightsEach Tryz.prog (Tryz.f7.params.toList ++ Rows.policyTurnedSpec.plain.varTypes Tryz.prog) (ds ++ gs)).all (· ≤ reachBytes) = true := hsz0
  rw [Tryz.params7] at hA hval hsz
  obtain ⟨v0, vs0, d0, ds0, p0, q0, hargs, rfl, rfl, h0, r0⟩ := trodAll_cons hA
  obtain ⟨v1, vs1, d1, ds1, p1, q1, rfl, rfl, rfl, h1, r1⟩ := trodAll_cons r0
  obtain ⟨rfl, rfl, rfl⟩ := trodAll_nil r1
  obtain rfl : args = #[v0, v1] := by cases args; simp_all
  obtain ⟨rfl, rfl⟩ := trodVars_none hV
  have k0 := h0
  have lt0 : ∀ x ∈ p0, x.block < W.heap.size := by obtain ⟨m, hm⟩ := k0; exact DataW.trod_lt m _ _ _ hm
  have hz0 : ∀ m ∈ d0.weights Tryz.prog 23, m ≤ reachBytes := fun m hm => by
    have h1 := List.all_eq_true.1 hsz m (DataW.weights_mem_each (j := 0) rfl rfl m hm)
    simpa using h1
  obtain ⟨q0, rfl, eA0⟩ := open_pol (hval 0 23 v0 rfl rfl) h0 hz0
  have k1 := h1
  have lt1 : ∀ x ∈ p1, x.block < W.heap.size := by obtain ⟨m, hm⟩ := k1; exact DataW.trod_lt m _ _ _ hm
  have hz1 : ∀ m ∈ d1.weights Tryz.prog 34, m ≤ reachBytes := fun m hm => by
    have h1 := List.all_eq_true.1 hsz m (DataW.weights_mem_each (j := 1) rfl rfl m hm)
    simpa using h1
  obtain ⟨s1, l1, n1, rfl, eA1, eB1⟩ := open_by (hval 1 34 v1 rfl rfl) h1 hz1
  clear hA0 hval0 hsz0
  refine (policyTurned_walk q0 s1 l1 n1 W eA0 eA1 eB1 hvars).mono fun e W' ⟨v, he, hv, bel⟩ => ?_
  subst he hv
  exact ⟨_, rfl, _, _, _, [], _, [], hW', trodAll_mk1 (shut_bool Tryz.underlying4 _), (trodAll_cons_mk (Below.trod laidOut (by kernel_rfl) (of_decide_eq_true (by kernel_rfl)) k0 bel lt0) (trodAll_cons_mk (Below.trod laidOut (by kernel_rfl) (of_decide_eq_true (by kernel_rfl)) k1 bel lt1) trodAll_mk0)), rfl, bel.frame _, fun h => by cases h⟩

theorem policyTurned_row : Rows.PolicyTurnedSaid :=
  OpenClaim.holds_of_wide 7 Tryz.f7 rfl rfl rfl rfl rfl rfl rfl ⟨rfl, rfl, rfl, rfl, rfl⟩ rfl rfl rfl rfl rfl (by kernel_rfl) Tryz.func7 (by kernel_rfl)
    (of_decide_eq_true (by kernel_rfl)) (by unfold Func.isWrapper; first | (rw [if_pos (by decide +kernel)]; kernel_rfl) | (rw [if_neg (by decide +kernel)]; exact ⟨rfl, rfl⟩))
    (fun os started H enc _ => policyTurned_lifted os started H enc)

theorem policyTurned_holds : Rows.PolicyTurnedCardSaid :=
  Claim7.holds_tied_plain_at .later [] [.data, .data, .data, .data, .sentinel, .sentinel, .pinned] true (true, "02b003ade427d62ed0908f33fa3ad860fd25ad3502c2ef17bff12e515b4c93bc") true
    policyTurned_row (fun _ h => by cases h) (by kernel_rfl) (fun _ h => by cases h) policyTurned_row_tie rfl ⟨rfl, rfl⟩ (by kernel_rfl) rfl
    (fun f fn hf hfn => by
      obtain rfl : f = 7 := Option.some.inj ((show Tryz.prog.funcNamed "hibernacle/hibernaclelaw49.PolicyTurned" = some 7 by kernel_rfl).symm.trans hf) |>.symm
      obtain rfl : fn = Tryz.f7 := (Option.some.inj (Tryz.func7.symm.trans hfn)).symm
      exact ⟨by kernel_rfl, fun j t ht => by
        rw [Tryz.params7] at ht
        rcases j with _ | _ | _ | _ | j
        all_goals first
          | (simp at ht; done)
          | (have h3 := Option.some.inj ht; subst h3; exact (show Tryz.prog.wantsStandIn _ = false by kernel_rfl))⟩)
    (by kernel_rfl)
#print axioms policyTurned_holds
end Go.Proofs.YtmncgnmgdkdhaaaGreatDoor
