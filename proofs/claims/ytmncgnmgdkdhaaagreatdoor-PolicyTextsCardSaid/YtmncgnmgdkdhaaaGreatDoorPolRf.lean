/- The walk of the document's Text of a policy. -/
import Derived.Test.YtmncgnmgdkdhaaaGreatDoorPolW1
import Derived.Test.YtmncgnmgdkdhaaaGreatDoorPolTx
import Derived.Test.YtmncgnmgdkdhaaaGreatDoorDecR
namespace Go.Proofs.YtmncgnmgdkdhaaaGreatDoor
open Go.RowKit
set_option linter.unusedVariables false
set_option linter.unusedSimpArgs false
structure PBox (B : Nat) (p : Pl.Pol) (w : World) : Prop where
  c0 : w.cell? ⟨B, 0, none⟩ = some (.int .i64 p.d)
  c1 : w.cell? ⟨B, 1, none⟩ = some (.int .i64 p.w)
  c2 : w.cell? ⟨B, 2, none⟩ = some (.int .i64 p.mo)
  c3 : w.cell? ⟨B, 3, none⟩ = some (.int .i64 p.y)
theorem PBox.below {B : Nat} {p : Pl.Pol} {w w' : World} (h : PBox B p w) (hb : Below w.heap.size w w') : PBox B p w' := by
  have hl := World.block_lt_of_cell? _ _ h.c0
  exact ⟨(hb.cell (p := ⟨B, 0, none⟩) hl).trans h.c0, (hb.cell (p := ⟨B, 1, none⟩) hl).trans h.c1, (hb.cell (p := ⟨B, 2, none⟩) hl).trans h.c2, (hb.cell (p := ⟨B, 3, none⟩) hl).trans h.c3⟩
set_option maxRecDepth 100000 in
set_option maxHeartbeats 4000000 in
theorem rtext_any (p : Pl.Pol) (w : World) : Calls Tryz.prog 14 #[polV p] w (RetB (fun v _ => v = .string ⟨(Pl.txP p).toArray⟩) w) := by
  have hck := fun W => rpcheck_any p W
  have hpc : polV p = .agg #[.int .i64 p.d, .int .i64 p.w, .int .i64 p.mo, .int .i64 p.y] := rfl
  obtain ⟨E, hE⟩ : ∃ E : Nat, E = Pl.polE p := ⟨_, rfl⟩
  rw [hpc, ← hE] at hck
  rw [hpc]
  obtain ⟨T, hT⟩ : ∃ T, T = Pl.txP p := ⟨_, rfl⟩
  rw [← hT]
  obtain ⟨nd, nw, nm, ny⟩ := p
  dsimp only at hck ⊢
  have HH := Lib.hid (And.intro hck (And.intro hE hT)); clear hck hE hT hpc
  go_enter Tryz.func14, Tryz.ntmps14
  go_wp2_with fail
  refine (HH.out.1 _).mono ?_
  rintro e w1 ⟨v, rfl, rfl, hb1⟩
  have hbw := ((Below.refl w.heap.size w).alloc (Nat.le_refl _) (.cells #[.int .i64 nd, .int .i64 nw, .int .i64 nm, .int .i64 ny] 23)).trans (hb1.mono (by simp))
  have hrow : w1.heap[w.heap.size]? = some (.cells #[.int .i64 nd, .int .i64 nw, .int .i64 nm, .int .i64 ny] 23 (0, 0)) := (hb1.block _ (by simp)).trans (heap_alloc_new w _)
  clear hb1
  by_cases hE0 : E = 0
  rotate_left
  · have hne : ((E : Int) != 0) = true := by rw [bne_iff_ne]; omega
    have htx : T = [] := by rw [HH.out.2.2]; unfold Pl.txP; rw [if_neg (by rw [← HH.out.2.1]; exact hE0)]
    clear hE0
    go_wp2_with fail
    go_ret
    exact ⟨_, rfl, by rw [htx]; rfl, hbw⟩
  · subst hE0
    have htx : T = Pl.polT ⟨nd, nw, nm, ny⟩ := by rw [HH.out.2.2]; unfold Pl.txP; rw [if_pos HH.out.2.1.symm]
    obtain ⟨f1, f2, f3, f4⟩ := Pl.polE_fit HH.out.2.1.symm
    have d1 := fun W => rdec_any nd W (Pl.fit_I64 f1)
    have d2 := fun W => rdec_any nw W (Pl.fit_I64 f2)
    have d3 := fun W => rdec_any nm W (Pl.fit_I64 f3)
    have d4 := fun W => rdec_any ny W (Pl.fit_I64 f4)
    have g1 := (Pl.itoa_len (Pl.fit_I64 f1)).2
    have g2 := (Pl.itoa_len (Pl.fit_I64 f2)).2
    have g3 := (Pl.itoa_len (Pl.fit_I64 f3)).2
    have g4 := (Pl.itoa_len (Pl.fit_I64 f4)).2
    unfold Pl.polT at htx
    dsimp only at htx g1 g2 g3 g4
    obtain ⟨t1, h1⟩ : ∃ t, Lib.itoa nd = t := ⟨_, rfl⟩
    obtain ⟨t2, h2⟩ : ∃ t, Lib.itoa nw = t := ⟨_, rfl⟩
    obtain ⟨t3, h3⟩ : ∃ t, Lib.itoa nm = t := ⟨_, rfl⟩
    obtain ⟨t4, h4⟩ : ∃ t, Lib.itoa ny = t := ⟨_, rfl⟩
    rw [h1] at htx g1
    rw [h2] at htx g2
    rw [h3] at htx g3
    rw [h4] at htx g4
    simp only [h1] at d1
    simp only [h2] at d2
    simp only [h3] at d3
    simp only [h4] at d4
    have HD := Lib.hid (And.intro d1 (And.intro d2 (And.intro d3 (And.intro d4 (And.intro htx hbw))))); clear d1 d2 d3 d4 htx hbw h1 h2 h3 h4 f1 f2 f3 f4
    have k1 : ¬ 9223372036854775807 < t1.length + 2 := by omega
    have k2 : ¬ 9223372036854775807 < t1.length + 2 + t2.length := by omega
    have k3 : ¬ 9223372036854775807 < t1.length + 2 + t2.length + 2 := by omega
    have k4 : ¬ 9223372036854775807 < t1.length + 2 + t2.length + 2 + t3.length := by omega
    have k5 : ¬ 9223372036854775807 < t1.length + 2 + t2.length + 2 + t3.length + 2 := by omega
    have k6 : ¬ 9223372036854775807 < t1.length + 2 + t2.length + 2 + t3.length + 2 + t4.length := by omega
    have k7 : ¬ 9223372036854775807 < t1.length + 2 + t2.length + 2 + t3.length + 2 + t4.length + 1 := by omega
    go_upto_region 3 with (fail)
    have hpb : PBox w.heap.size ⟨nd, nw, nm, ny⟩ w1.drew := by
      constructor
      · exact cell_row w1.drew _ 0 _ _ hrow
      · exact cell_row w1.drew _ 1 _ _ hrow
      · exact cell_row w1.drew _ 2 _ _ hrow
      · exact cell_row w1.drew _ 3 _ _ hrow
    have hbd := HD.out.2.2.2.2.2.drew
    refine wp_region_held_drew (S := (fun w' => PBox w.heap.size ⟨nd, nw, nm, ny⟩ w')) (by kernel_rfl) (by exact hpb) (fun hHeld => ?_)
    generalize hW1 : w1.drew = W1 at hHeld hbd ⊢
    clear hW1 hpb
    refine wpAnyH_take (i := 0) (v := ?_) rfl (by kernel_rfl) (by kernel_rfl) (by kernel_rfl) (fun _ _ _ h => h) (Or.inl ⟨by kernel_rfl, ?_⟩) hHeld ?_
    rotate_left
    · (intro w' hSw; obtain ⟨hS0, hS1, hS2, hS3⟩ := hSw; go_simp; try with_reducible rfl)
    simp only [Act.put, List.setIfInBounds_toArray, List.set_cons_zero, List.set_cons_succ, List.getElem_toArray, List.getElem_cons_succ, List.getElem_cons_zero]
    refine wpAnyH_take (i := 1) (v := ?_) rfl (by kernel_rfl) (by kernel_rfl) (by kernel_rfl) (fun _ _ _ h => h) (Or.inl ⟨by kernel_rfl, ?_⟩) hHeld ?_
    rotate_left
    · (intro w' hSw; obtain ⟨hS0, hS1, hS2, hS3⟩ := hSw; go_simp; try with_reducible rfl)
    simp only [Act.put, List.setIfInBounds_toArray, List.set_cons_zero, List.set_cons_succ, List.getElem_toArray, List.getElem_cons_succ, List.getElem_cons_zero]
    refine wpAnyH_take (i := 4) (v := ?_) rfl (by kernel_rfl) (by kernel_rfl) (by kernel_rfl) (fun _ _ _ h => h) (Or.inl ⟨by kernel_rfl, ?_⟩) hHeld ?_
    rotate_left
    · (intro w' hSw; obtain ⟨hS0, hS1, hS2, hS3⟩ := hSw; go_simp; try with_reducible rfl)
    simp only [Act.put, List.setIfInBounds_toArray, List.set_cons_zero, List.set_cons_succ, List.getElem_toArray, List.getElem_cons_succ, List.getElem_cons_zero]
    refine wpAnyH_take (i := 5) (v := ?_) rfl (by kernel_rfl) (by kernel_rfl) (by kernel_rfl) (fun _ _ _ h => h) (Or.inl ⟨by kernel_rfl, ?_⟩) hHeld ?_
    rotate_left
    · (intro w' hSw; obtain ⟨hS0, hS1, hS2, hS3⟩ := hSw; go_simp; try with_reducible rfl)
    simp only [Act.put, List.setIfInBounds_toArray, List.set_cons_zero, List.set_cons_succ, List.getElem_toArray, List.getElem_cons_succ, List.getElem_cons_zero]
    refine wpAnyH_take (i := 9) (v := ?_) rfl (by kernel_rfl) (by kernel_rfl) (by kernel_rfl) (fun _ _ _ h => h) (Or.inl ⟨by kernel_rfl, ?_⟩) hHeld ?_
    rotate_left
    · (intro w' hSw; obtain ⟨hS0, hS1, hS2, hS3⟩ := hSw; go_simp; try with_reducible rfl)
    simp only [Act.put, List.setIfInBounds_toArray, List.set_cons_zero, List.set_cons_succ, List.getElem_toArray, List.getElem_cons_succ, List.getElem_cons_zero]
    refine wpAnyH_take (i := 10) (v := ?_) rfl (by kernel_rfl) (by kernel_rfl) (by kernel_rfl) (fun _ _ _ h => h) (Or.inl ⟨by kernel_rfl, ?_⟩) hHeld ?_
    rotate_left
    · (intro w' hSw; obtain ⟨hS0, hS1, hS2, hS3⟩ := hSw; go_simp; try with_reducible rfl)
    simp only [Act.put, List.setIfInBounds_toArray, List.set_cons_zero, List.set_cons_succ, List.getElem_toArray, List.getElem_cons_succ, List.getElem_cons_zero]
    refine wpAnyH_take (i := 14) (v := ?_) rfl (by kernel_rfl) (by kernel_rfl) (by kernel_rfl) (fun _ _ _ h => h) (Or.inl ⟨by kernel_rfl, ?_⟩) hHeld ?_
    rotate_left
    · (intro w' hSw; obtain ⟨hS0, hS1, hS2, hS3⟩ := hSw; go_simp; try with_reducible rfl)
    simp only [Act.put, List.setIfInBounds_toArray, List.set_cons_zero, List.set_cons_succ, List.getElem_toArray, List.getElem_cons_succ, List.getElem_cons_zero]
    refine wpAnyH_take (i := 15) (v := ?_) rfl (by kernel_rfl) (by kernel_rfl) (by kernel_rfl) (fun _ _ _ h => h) (Or.inl ⟨by kernel_rfl, ?_⟩) hHeld ?_
    rotate_left
    · (intro w' hSw; obtain ⟨hS0, hS1, hS2, hS3⟩ := hSw; go_simp; try with_reducible rfl)
    simp only [Act.put, List.setIfInBounds_toArray, List.set_cons_zero, List.set_cons_succ, List.getElem_toArray, List.getElem_cons_succ, List.getElem_cons_zero]
    refine wpAnyH_ready (rs := [2]) (by kernel_rfl) (by simp) (AllReadyH.cons rfl (fun K hK => ?_) AllReadyH.nil)
    go_simp
    refine (HD.out.1 _).mono ?_
    rintro e V2 ⟨v, rfl, rfl, hb2⟩
    have hp2 := hHeld.below hb2
    replace hbd := hbd.trans (hb2.mono hbd.size)
    clear hHeld hb2
    refine hK.out _ _ (by exact hp2) (fun hHeld => ?_)
    clear hK K
    (try simp only [Act.put, List.setIfInBounds_toArray, List.set_cons_zero, List.set_cons_succ, List.getElem_toArray, List.getElem_cons_succ, List.getElem_cons_zero])
    clear hp2
    refine wpAnyH_take (i := 3) (v := ?_) rfl (by kernel_rfl) (by kernel_rfl) (by kernel_rfl) (fun _ _ _ h => h) (Or.inl ⟨by kernel_rfl, ?_⟩) hHeld ?_
    rotate_left
    · (intro w' hSw; (try dsimp only at hSw); go_simp; try with_reducible rfl)
    simp only [Act.put, List.setIfInBounds_toArray, List.set_cons_zero, List.set_cons_succ, List.getElem_toArray, List.getElem_cons_succ, List.getElem_cons_zero]
    refine wpAnyH_ready (rs := [6]) (by kernel_rfl) (by simp) (AllReadyH.cons rfl (fun K hK => ?_) AllReadyH.nil)
    go_simp
    refine (HD.out.2.1 _).mono ?_
    rintro e V3 ⟨v, rfl, rfl, hb2⟩
    have hp2 := hHeld.below hb2
    replace hbd := hbd.trans (hb2.mono hbd.size)
    clear hHeld hb2
    refine hK.out _ _ (by exact hp2) (fun hHeld => ?_)
    clear hK K
    (try simp only [Act.put, List.setIfInBounds_toArray, List.set_cons_zero, List.set_cons_succ, List.getElem_toArray, List.getElem_cons_succ, List.getElem_cons_zero])
    clear hp2
    refine wpAnyH_take (i := 7) (v := ?_) rfl (by kernel_rfl) (by kernel_rfl) (by kernel_rfl) (fun _ _ _ h => h) (Or.inl ⟨by kernel_rfl, ?_⟩) hHeld ?_
    rotate_left
    · (intro w' hSw; (try dsimp only at hSw); go_simp; try with_reducible rfl)
    simp only [Act.put, List.setIfInBounds_toArray, List.set_cons_zero, List.set_cons_succ, List.getElem_toArray, List.getElem_cons_succ, List.getElem_cons_zero]
    refine wpAnyH_take (i := 8) (v := ?_) rfl (by kernel_rfl) (by kernel_rfl) (by kernel_rfl) (fun _ _ _ h => h) (Or.inl ⟨by kernel_rfl, ?_⟩) hHeld ?_
    rotate_left
    · (intro w' hSw; (try dsimp only at hSw); go_simp; try with_reducible rfl)
    simp only [Act.put, List.setIfInBounds_toArray, List.set_cons_zero, List.set_cons_succ, List.getElem_toArray, List.getElem_cons_succ, List.getElem_cons_zero]
    refine wpAnyH_ready (rs := [11]) (by kernel_rfl) (by simp) (AllReadyH.cons rfl (fun K hK => ?_) AllReadyH.nil)
    go_simp
    refine (HD.out.2.2.1 _).mono ?_
    rintro e V4 ⟨v, rfl, rfl, hb2⟩
    have hp2 := hHeld.below hb2
    replace hbd := hbd.trans (hb2.mono hbd.size)
    clear hHeld hb2
    refine hK.out _ _ (by exact hp2) (fun hHeld => ?_)
    clear hK K
    (try simp only [Act.put, List.setIfInBounds_toArray, List.set_cons_zero, List.set_cons_succ, List.getElem_toArray, List.getElem_cons_succ, List.getElem_cons_zero])
    clear hp2
    refine wpAnyH_take (i := 12) (v := ?_) rfl (by kernel_rfl) (by kernel_rfl) (by kernel_rfl) (fun _ _ _ h => h) (Or.inl ⟨by kernel_rfl, ?_⟩) hHeld ?_
    rotate_left
    · (intro w' hSw; (try dsimp only at hSw); go_simp; try with_reducible rfl)
    simp only [Act.put, List.setIfInBounds_toArray, List.set_cons_zero, List.set_cons_succ, List.getElem_toArray, List.getElem_cons_succ, List.getElem_cons_zero]
    refine wpAnyH_take (i := 13) (v := ?_) rfl (by kernel_rfl) (by kernel_rfl) (by kernel_rfl) (fun _ _ _ h => h) (Or.inl ⟨by kernel_rfl, ?_⟩) hHeld ?_
    rotate_left
    · (intro w' hSw; (try dsimp only at hSw); go_simp; try with_reducible rfl)
    simp only [Act.put, List.setIfInBounds_toArray, List.set_cons_zero, List.set_cons_succ, List.getElem_toArray, List.getElem_cons_succ, List.getElem_cons_zero]
    refine wpAnyH_ready (rs := [16]) (by kernel_rfl) (by simp) (AllReadyH.cons rfl (fun K hK => ?_) AllReadyH.nil)
    go_simp
    refine (HD.out.2.2.2.1 _).mono ?_
    rintro e V5 ⟨v, rfl, rfl, hb2⟩
    have hp2 := hHeld.below hb2
    replace hbd := hbd.trans (hb2.mono hbd.size)
    clear hHeld hb2
    refine hK.out _ _ (by exact hp2) (fun hHeld => ?_)
    clear hK K
    (try simp only [Act.put, List.setIfInBounds_toArray, List.set_cons_zero, List.set_cons_succ, List.getElem_toArray, List.getElem_cons_succ, List.getElem_cons_zero])
    clear hp2
    refine wpAnyH_take (i := 17) (v := ?_) rfl (by kernel_rfl) (by kernel_rfl) (by kernel_rfl) (fun _ _ _ h => h) (Or.inl ⟨by kernel_rfl, ?_⟩) hHeld ?_
    rotate_left
    · (intro w' hSw; (try dsimp only at hSw); go_simp; try with_reducible rfl)
    simp only [Act.put, List.setIfInBounds_toArray, List.set_cons_zero, List.set_cons_succ, List.getElem_toArray, List.getElem_cons_succ, List.getElem_cons_zero]
    refine wpAnyH_take (i := 18) (v := ?_) rfl (by kernel_rfl) (by kernel_rfl) (by kernel_rfl) (fun _ _ _ h => h) (Or.inl ⟨by kernel_rfl, ?_⟩) hHeld ?_
    rotate_left
    · (intro w' hSw; (try dsimp only at hSw); go_simp; try with_reducible rfl)
    simp only [Act.put, List.setIfInBounds_toArray, List.set_cons_zero, List.set_cons_succ, List.getElem_toArray, List.getElem_cons_succ, List.getElem_cons_zero]
    refine wpAnyH_take (i := 19) (v := ?_) rfl (by kernel_rfl) (by kernel_rfl) (by kernel_rfl) (fun _ _ _ h => h) (Or.inl ⟨by kernel_rfl, ?_⟩) hHeld ?_
    rotate_left
    · (intro w' hSw; (try dsimp only at hSw); go_simp; try with_reducible rfl)
    simp only [Act.put, List.setIfInBounds_toArray, List.set_cons_zero, List.set_cons_succ, List.getElem_toArray, List.getElem_cons_succ, List.getElem_cons_zero]
    refine wpAnyH_done (by kernel_rfl) ?_ _
    go_wp2_with fail
    go_ret
    refine ⟨_, rfl, ?_, hbd⟩
    rw [HD.out.2.2.2.2.1]
    show Value.string _ = Value.string _
    congr 1
    apply ByteArray.ext
    simp
end Go.Proofs.YtmncgnmgdkdhaaaGreatDoor
