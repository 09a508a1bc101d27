/- The walk of the reference's Get. -/
import Derived.Test.YtnapokalopcdkaaShR5
namespace Go.Proofs.Ytnapokalopcdkaa
open Go.RowKit
set_option linter.unusedVariables false
set_option linter.unusedSimpArgs false
set_option maxRecDepth 100000 in
set_option maxHeartbeats 4000000 in
theorem rget_all (A A' : Option Addr) (c c' : Nat) (l : List Pl.Obj) (F : List Int) (nm : List UInt8) (w : World) (n m : Nat) (hl : l.length = n) (hm : F.length = m) (hr : SlAt w 4 A n c (objCs l)) (hr' : SlAt w 1 A' m c' (ints F)) (hf : Pl.Fit 1000 l F) :
    Calls Try.prog 21 #[.agg #[.slice A n c, .slice A' m c'], .string ⟨nm.toArray⟩] w (RetB (GetOut l (Pl.getA l F nm).1 (Pl.getA l F nm).2.1 (Pl.getA l F nm).2.2) w) := by
  have hn : n ≤ 1000 := by rw [← hl]; exact hf.1
  have hmm : m ≤ 1000 := by rw [← hm]; exact hf.2.1
  obtain ⟨E, hE⟩ : ∃ E, Pl.chk l = E := ⟨_, rfl⟩
  obtain ⟨R, hR⟩ : ∃ R, Pl.getA l F nm = R := ⟨_, rfl⟩
  rw [hR]
  have hck := fun A A' c m c' w h => rcheck_any A A' n c m c' l w hl h (by omega)
  rw [hE] at hck
  have hft := fun A A' c c' w h => fate_any A A' n c m c' F w hm h
  obtain ⟨f, hff⟩ : ∃ f, F.headD 0 = f := ⟨_, rfl⟩
  obtain ⟨g, hgg⟩ : ∃ g, nf f = g := ⟨_, rfl⟩
  obtain ⟨T, hT⟩ : ∃ T, F.tail = T := ⟨_, rfl⟩
  unfold TakenOut at hft
  simp only [hff, hgg, hT] at hft
  unfold Pl.getA at hR
  simp only [hff, hT] at hR
  have HC := Lib.hid (And.intro hck (And.intro hft (And.intro hE (And.intro hgg hT)))); clear hck hft hE hff hgg hT
  have HL := Lib.hid (And.intro hl hm); clear hl hm
  have HR0 := Lib.hid hR; clear hR
  go_enter Try.func21, Try.ntmps21
  go_wp2_with fail
  have hb0 := bx_new w A A' n c m c'
  obtain ⟨V, hV⟩ : ∃ V, (w.alloc (.cells #[.slice A n c, .slice A' m c'] 25)).alloc (.cells #[.slice none 0 0, .slice none 0 0] 25) = V := ⟨_, rfl⟩
  rw [hV] at hb0 ⊢
  clear hV
  (with_reducible refine (HC.out.1 _ _ _ _ _ V (hr.below hb0.bel).rd).mono ?_)
  rintro e w1 ⟨v, rfl, rfl, hb1⟩
  replace hb0 := hb0.below hb1
  obtain ⟨x0, x1, r0, r1, xf, rf⟩ := hb0.cells
  by_cases hE0 : E = 0
  rotate_left
  · have HR := Lib.hid (show R = (F, [], E) by rw [← HR0.out]; unfold Pl.askE; rw [HC.out.2.2.1, if_pos hE0, if_pos hE0])
    have q0 : ((E : Int) != 0) = true := by simp; omega
    clear hE0
    go_wp2_with fail
    refine bodyPost_ret (v := .tuple #[.agg #[.slice A n c, .slice A' m c'], .string ⟨#[]⟩, .int .i64 (E : Int)]) (by simp [results, Try.results21, go_sem, r0, r1]) rfl ?_
    have hfin := hb0.fin (.slice A n c) (.slice A' m c')
    refine ⟨_, rfl, ⟨A, c, A', c', ?_, ?_, ?_⟩, by first | exact hfin | exact hfin.drew⟩
    · rw [HR.out]; simp [HL.out.1, HL.out.2]
    · (try rw [HR.out]); simp only [HL.out.1, HL.out.2]; first | exact hr.below hfin | exact hr.below hfin.drew
    · rw [HR.out]; simp only [HL.out.1, HL.out.2]; first | exact hr'.below hfin | exact hr'.below hfin.drew
  subst hE0
  clear x0 x1 r0 r1 xf rf
  obtain ⟨q, hq⟩ : ∃ q, Pl.okName nm = q := ⟨_, rfl⟩
  have hnm := fun w => rName_any nm w
  rw [hq] at hnm
  have HN := Lib.hid (And.intro hnm hq); clear hnm hq
  go_wp2_with fail
  (with_reducible refine (HN.out.1 _).mono ?_)
  rintro e w2 ⟨rfl, rfl⟩
  obtain ⟨x0, x1, r0, r1, xf, rf⟩ := hb0.cells
  cases q with
  | false =>
    have HR := Lib.hid (show R = (F, [], 7) by rw [← HR0.out]; unfold Pl.askE; rw [HC.out.2.2.1, HN.out.2]; rfl)
    go_wp2_with fail
    refine bodyPost_ret (v := .tuple #[.agg #[.slice A n c, .slice A' m c'], .string ⟨#[]⟩, .int .i64 7]) (by simp [results, Try.results21, go_sem, r0, r1]) rfl ?_
    have hfin := hb0.fin (.slice A n c) (.slice A' m c')
    refine ⟨_, rfl, ⟨A, c, A', c', ?_, ?_, ?_⟩, by first | exact hfin | exact hfin.drew⟩
    · rw [HR.out]; simp [HL.out.1, HL.out.2]
    · (try rw [HR.out]); simp only [HL.out.1, HL.out.2]; first | exact hr.below hfin | exact hr.below hfin.drew
    · rw [HR.out]; simp only [HL.out.1, HL.out.2]; first | exact hr'.below hfin | exact hr'.below hfin.drew
  | true =>
  have hask : Pl.askE l nm = 0 := Pl.askE_of HC.out.2.2.1 HN.out.2
  have HA := Lib.hid hask; clear hask
  go_wp2_with fail
  (with_reducible refine (HC.out.2.1 _ _ _ _ _ (hr'.below hb0.bel)).mono ?_)
  rintro e w3 ⟨v, rfl, ⟨A3, c3, rfl, hs3, hbk⟩, hb3⟩
  replace hb0 := hb0.below hb3
  have hs0 := hs3.back hb0.bel hr' hbk (by rw [← HC.out.2.2.2.2, List.length_tail, HL.out.2]; omega)
  clear x0 x1 r0 r1 xf rf hs3 hbk hb3
  obtain ⟨x0, x1, r0, r1, xf, rf⟩ := hb0.cells
  obtain ⟨t, ht⟩ : ∃ t, T.length = t := ⟨_, rfl⟩
  rw [ht] at hs0 ⊢
  have HT := Lib.hid ht; clear ht
  have hp := hb0.store A A3 n c t c3
  have hR1 : R = (T, (Pl.getR l g nm).1, (Pl.getR l g nm).2) := by rw [← HR0.out, HA.out, if_neg (by simp), ← HC.out.2.2.2.1, getR_nf]
  unfold Pl.getR at hR1
  have HR1 := Lib.hid hR1; clear hR1
  go_wp2_with fail
  obtain ⟨W3, hW3⟩ : ∃ W, (w3.setCell ⟨w.heap.size, 0, none⟩ (.slice A n c)).setCell ⟨w.heap.size, 1, none⟩ (.slice A3 t c3) = W := ⟨_, rfl⟩
  rw [hW3] at hp ⊢
  clear hW3 x0 x1 r0 r1 xf rf hb0
  (with_reducible refine (rfind_any _ _ n _ _ _ l nm _ HL.out.1 (hr.below hp.bel).rd (by omega)).mono ?_)
  rintro e w5 ⟨v, rfl, hv, hb5⟩
  unfold FindOut objV at hv
  obtain ⟨oo, hoo⟩ : ∃ o, Pl.findO l nm = o := ⟨_, rfl⟩
  rw [hoo] at hv HR1
  have hdl : ∀ o, oo = some o → o.data.length ≤ 1000000 := fun o h => hf.2.2 o (Pl.find_mem (hoo.trans h)).1
  have HDL := Lib.hid hdl; clear hdl hoo
  obtain ⟨on, od, ow, oh, hoe⟩ : ∃ a b c d, oo.getD zeroO = ⟨a, b, c, d⟩ := ⟨_, _, _, _, rfl⟩
  obtain ⟨i, hi⟩ : ∃ i, oo.isSome = i := ⟨_, rfl⟩
  rw [hoe, hi] at hv
  simp only at hv
  have HO := Lib.hid (And.intro hoe hi); clear hoe hi
  subst hv
  replace hp := hp.below hb5
  have hb6 := (Below.refl w5.heap.size w5).alloc (Nat.le_refl _) (.cells #[.string ⟨on.toArray⟩, .string ⟨od.toArray⟩, .string ⟨ow.toArray⟩, .bool oh] 50)
  have hsz5 := hp.siz
  replace hp := hp.below hb6
  have HB := Lib.hid (heap_alloc_new w5 (.cells #[.string ⟨on.toArray⟩, .string ⟨od.toArray⟩, .string ⟨ow.toArray⟩, .bool oh] 50))
  obtain ⟨x0, x1, r0, r1, xf, rf⟩ := hp.cells
  by_cases h4 : g = 4
  · have HR := Lib.hid (show R = (T, [], 17) by rw [HR1.out, if_pos h4]); clear HR1
    subst h4
    go_wp2_with fail
    refine bodyPost_ret (v := .tuple #[.agg #[.slice A n c, .slice A3 t c3], .string ⟨#[]⟩, .int .i64 17]) (by simp [results, Try.results21, go_sem, r0, r1]) rfl ?_
    have hfin := hp.fin (.slice A n c) (.slice A3 t c3)
    refine ⟨_, rfl, ⟨A, c, A3, c3, ?_, ?_, ?_⟩, by first | exact hfin | exact hfin.drew⟩
    · rw [HR.out]; simp [HL.out.1, HL.out.2, HT.out]
    · (try rw [HR.out]); simp only [HL.out.1, HL.out.2, HT.out]; first | exact hr.below hfin | exact hr.below hfin.drew
    · rw [HR.out]; simp only [HL.out.1, HL.out.2, HT.out]; first | exact hs0.below hfin | exact hs0.below hfin.drew
  have q4 : (g == 4) = false := beq_eq_false_iff_ne.2 h4
  cases i with
  | false =>
    have hon : oo = none := by have := HO.out.2; cases oo <;> simp_all
    have HR := Lib.hid (show R = (T, [], 9) by rw [HR1.out, if_neg h4, hon])
    clear hon HR1 h4
    go_wp2_with fail
    refine bodyPost_ret (v := .tuple #[.agg #[.slice A n c, .slice A3 t c3], .string ⟨#[]⟩, .int .i64 9]) (by simp [results, Try.results21, go_sem, r0, r1]) rfl ?_
    have hfin := hp.fin (.slice A n c) (.slice A3 t c3)
    refine ⟨_, rfl, ⟨A, c, A3, c3, ?_, ?_, ?_⟩, by first | exact hfin | exact hfin.drew⟩
    · rw [HR.out]; simp [HL.out.1, HL.out.2, HT.out]
    · (try rw [HR.out]); simp only [HL.out.1, HL.out.2, HT.out]; first | exact hr.below hfin | exact hr.below hfin.drew
    · rw [HR.out]; simp only [HL.out.1, HL.out.2, HT.out]; first | exact hs0.below hfin | exact hs0.below hfin.drew
  | true =>
  have hos : oo = some ⟨on, od, ow, oh⟩ := by
    have h1 := HO.out.2
    have h2 := HO.out.1
    cases oo with
    | none => cases h1
    | some x => rw [← h2]; rfl
  have hol : od.length ≤ 1000000 := HDL.out _ hos
  have hR2 := HR1.out
  rw [if_neg h4, hos] at hR2
  simp only at hR2
  clear hos HR1 h4 HDL HO
  by_cases h1 : g = 1
  · have HR := Lib.hid (show R = (T, [], 9) by rw [hR2, if_pos (.inl h1)]); clear hR2
    subst h1
    go_wp2_with fail
    refine bodyPost_ret (v := .tuple #[.agg #[.slice A n c, .slice A3 t c3], .string ⟨#[]⟩, .int .i64 9]) (by simp [results, Try.results21, go_sem, r0, r1]) rfl ?_
    have hfin := hp.fin (.slice A n c) (.slice A3 t c3)
    refine ⟨_, rfl, ⟨A, c, A3, c3, ?_, ?_, ?_⟩, by first | exact hfin | exact hfin.drew⟩
    · rw [HR.out]; simp [HL.out.1, HL.out.2, HT.out]
    · (try rw [HR.out]); simp only [HL.out.1, HL.out.2, HT.out]; first | exact hr.below hfin | exact hr.below hfin.drew
    · rw [HR.out]; simp only [HL.out.1, HL.out.2, HT.out]; first | exact hs0.below hfin | exact hs0.below hfin.drew
  have q1 : (g == 1) = false := beq_eq_false_iff_ne.2 h1
  have hne : w.heap.size + 1 ≠ w5.heap.size := by omega
  have hn0 : w5.heap.size ≠ w.heap.size + 1 := by omega
  have p1 := cell_row _ _ 1 _ _ HB.out
  have p2 := cell_row _ _ 2 _ _ HB.out
  have p3 := cell_row _ _ 3 _ _ HB.out
  simp only [List.getElem?_toArray, List.getElem?_cons_succ, List.getElem?_cons_zero] at p1 p2 p3
  clear hb6
  by_cases h3 : g = 3
  · have q3 : (g == 3) = true := by simp [h3]
    cases oh with
    | false =>
      have HR := Lib.hid (show R = (T, [], 9) by rw [hR2, if_pos (.inr ⟨h3, rfl⟩)]); clear hR2 h1 h3 p1 p2 p3
      go_wp2_with fail
      refine bodyPost_ret (v := .tuple #[.agg #[.slice A n c, .slice A3 t c3], .string ⟨#[]⟩, .int .i64 9]) (by simp [results, Try.results21, go_sem, r0, r1]) rfl ?_
      have hfin := hp.fin (.slice A n c) (.slice A3 t c3)
      refine ⟨_, rfl, ⟨A, c, A3, c3, ?_, ?_, ?_⟩, by first | exact hfin | exact hfin.drew⟩
      · rw [HR.out]; simp [HL.out.1, HL.out.2, HT.out]
      · (try rw [HR.out]); simp only [HL.out.1, HL.out.2, HT.out]; first | exact hr.below hfin | exact hr.below hfin.drew
      · rw [HR.out]; simp only [HL.out.1, HL.out.2, HT.out]; first | exact hs0.below hfin | exact hs0.below hfin.drew
    | true =>
      have HR := Lib.hid (show R = (T, ow, 0) by rw [hR2, if_neg (by simp [h1]), if_pos h3]); clear hR2 h1 h3
      go_wp2_with fail
      obtain ⟨V6, hV6⟩ : ∃ V, w5.alloc (.cells #[.string ⟨on.toArray⟩, .string ⟨od.toArray⟩, .string ⟨ow.toArray⟩, .bool true] 50) = V := ⟨_, rfl⟩
      have hltb : w5.heap.size < V6.heap.size := by rw [← hV6]; simp
      rw [hV6] at hp x0 x1 r0 r1 xf rf p1 p2 p3 ⊢
      clear hV6
      refine wp_region_held_drew (S := (fun w' => w'.cell? ⟨w.heap.size, 0, none⟩ = some (.slice A n c) ∧ w'.cell? ⟨w.heap.size, 1, none⟩ = some (.slice A3 t c3) ∧ w'.cell? ⟨w5.heap.size, 2, none⟩ = some (.string ⟨ow.toArray⟩))) (by kernel_rfl) (by exact ⟨x0, x1, p2⟩) (fun hHeld => ?_)
      refine wpAnyH_take (i := 0) (v := ?_) rfl (by kernel_rfl) (by kernel_rfl) (by kernel_rfl) (fun _ _ _ h => h) (Or.inl ⟨by kernel_rfl, ?_⟩) hHeld ?_
      rotate_left
      · (intro w' hSw; (try dsimp only at hSw); (try obtain ⟨hS0, hS1, hS2⟩ := hSw); go_simp; try with_reducible rfl)
      simp only [Act.put, List.setIfInBounds_toArray, List.set_cons_zero, List.set_cons_succ, List.getElem_toArray, List.getElem_cons_succ, List.getElem_cons_zero]
      refine wpAnyH_take (i := 1) (v := ?_) rfl (by kernel_rfl) (by kernel_rfl) (by kernel_rfl) (fun _ _ _ h => h) (Or.inl ⟨by kernel_rfl, ?_⟩) hHeld ?_
      rotate_left
      · (intro w' hSw; (try dsimp only at hSw); (try obtain ⟨hS0, hS1, hS2⟩ := hSw); go_simp; try with_reducible rfl)
      simp only [Act.put, List.setIfInBounds_toArray, List.set_cons_zero, List.set_cons_succ, List.getElem_toArray, List.getElem_cons_succ, List.getElem_cons_zero]
      refine wpAnyH_take (i := 2) (v := ?_) rfl (by kernel_rfl) (by kernel_rfl) (by kernel_rfl) (fun _ _ _ h => h) (Or.inl ⟨by kernel_rfl, ?_⟩) hHeld ?_
      rotate_left
      · (intro w' hSw; (try dsimp only at hSw); (try obtain ⟨hS0, hS1, hS2⟩ := hSw); go_simp; try with_reducible rfl)
      simp only [Act.put, List.setIfInBounds_toArray, List.set_cons_zero, List.set_cons_succ, List.getElem_toArray, List.getElem_cons_succ, List.getElem_cons_zero]
      refine wpAnyH_ready (rs := [3]) (by kernel_rfl) (by simp) (AllReadyH.cons rfl (fun K hK => ?_) AllReadyH.nil)
      go_simp
      refine hK.out _ _ ⟨((World.cell?_setCell_far _ _ _ _ (by simp)).trans (World.cell?_setCell_far _ _ _ _ (by simp))).trans x0, ((World.cell?_setCell_far _ _ _ _ (by simp)).trans (World.cell?_setCell_far _ _ _ _ (by simp))).trans x1, ((World.cell?_setCell_far _ _ _ _ hne).trans (World.cell?_setCell_far _ _ _ _ hne)).trans p2⟩ (fun hHeld => ?_)
      clear hK K
      (try simp only [Act.put, List.setIfInBounds_toArray, List.set_cons_zero, List.set_cons_succ, List.getElem_toArray, List.getElem_cons_succ, List.getElem_cons_zero])
      refine wpAnyH_take (i := 4) (v := ?_) rfl (by kernel_rfl) (by kernel_rfl) (by kernel_rfl) (fun _ _ _ h => h) (Or.inl ⟨by kernel_rfl, ?_⟩) hHeld ?_
      rotate_left
      · (intro w' hSw; (try dsimp only at hSw); (try obtain ⟨hS0, hS1, hS2⟩ := hSw); go_simp; try with_reducible rfl)
      simp only [Act.put, List.setIfInBounds_toArray, List.set_cons_zero, List.set_cons_succ, List.getElem_toArray, List.getElem_cons_succ, List.getElem_cons_zero]
      refine wpAnyH_take (i := 5) (v := ?_) rfl (by kernel_rfl) (by kernel_rfl) (by kernel_rfl) (fun _ _ _ h => h) (Or.inl ⟨by kernel_rfl, ?_⟩) hHeld ?_
      rotate_left
      · (intro w' hSw; (try dsimp only at hSw); (try obtain ⟨hS0, hS1, hS2⟩ := hSw); go_simp; try with_reducible rfl)
      simp only [Act.put, List.setIfInBounds_toArray, List.set_cons_zero, List.set_cons_succ, List.getElem_toArray, List.getElem_cons_succ, List.getElem_cons_zero]
      refine wpAnyH_done (by kernel_rfl) ?_ _
      go_wp2_with fail
      refine bodyPost_ret (v := .tuple #[.agg #[.slice A n c, .slice A3 t c3], .string ⟨ow.toArray⟩, .int .i64 0]) (by simp [results, Try.results21, go_sem, r0, r1]) rfl ?_
      have hfin := hp.fin (.slice A n c) (.slice A3 t c3)
      refine ⟨_, rfl, ⟨A, c, A3, c3, ?_, ?_, ?_⟩, by first | exact hfin | exact hfin.drew⟩
      · rw [HR.out]; simp [HL.out.1, HL.out.2, HT.out]
      · (try rw [HR.out]); simp only [HL.out.1, HL.out.2, HT.out]; first | exact hr.below hfin | exact hr.below hfin.drew
      · rw [HR.out]; simp only [HL.out.1, HL.out.2, HT.out]; first | exact hs0.below hfin | exact hs0.below hfin.drew
  have q3 : (g == 3) = false := beq_eq_false_iff_ne.2 h3
  rw [if_neg (by simp [h1, h3]), if_neg h3] at hR2
  by_cases h2 : g = 2
  · have q2 : (g == 2) = true := by simp [h2]
    have HR := Lib.hid (show R = (T, Pl.flip od, 0) by rw [hR2, if_pos h2]); clear hR2 h1 h2 h3
    go_wp2_with fail
    obtain ⟨V6, hV6⟩ : ∃ V, w5.alloc (.cells #[.string ⟨on.toArray⟩, .string ⟨od.toArray⟩, .string ⟨ow.toArray⟩, .bool oh] 50) = V := ⟨_, rfl⟩
    have hltb : w5.heap.size < V6.heap.size := by rw [← hV6]; simp
    rw [hV6] at hp x0 x1 r0 r1 xf rf p1 p2 p3 ⊢
    clear hV6
    refine wp_region_held_drew (S := (fun w' => w'.cell? ⟨w.heap.size, 0, none⟩ = some (.slice A n c) ∧ w'.cell? ⟨w.heap.size, 1, none⟩ = some (.slice A3 t c3) ∧ w'.cell? ⟨w5.heap.size, 1, none⟩ = some (.string ⟨od.toArray⟩))) (by kernel_rfl) (by exact ⟨x0, x1, p1⟩) (fun hHeld => ?_)
    refine wpAnyH_take (i := 0) (v := ?_) rfl (by kernel_rfl) (by kernel_rfl) (by kernel_rfl) (fun _ _ _ h => h) (Or.inl ⟨by kernel_rfl, ?_⟩) hHeld ?_
    rotate_left
    · (intro w' hSw; (try dsimp only at hSw); (try obtain ⟨hS0, hS1, hS2⟩ := hSw); go_simp; try with_reducible rfl)
    simp only [Act.put, List.setIfInBounds_toArray, List.set_cons_zero, List.set_cons_succ, List.getElem_toArray, List.getElem_cons_succ, List.getElem_cons_zero]
    refine wpAnyH_take (i := 1) (v := ?_) rfl (by kernel_rfl) (by kernel_rfl) (by kernel_rfl) (fun _ _ _ h => h) (Or.inl ⟨by kernel_rfl, ?_⟩) hHeld ?_
    rotate_left
    · (intro w' hSw; (try dsimp only at hSw); (try obtain ⟨hS0, hS1, hS2⟩ := hSw); go_simp; try with_reducible rfl)
    simp only [Act.put, List.setIfInBounds_toArray, List.set_cons_zero, List.set_cons_succ, List.getElem_toArray, List.getElem_cons_succ, List.getElem_cons_zero]
    refine wpAnyH_take (i := 2) (v := ?_) rfl (by kernel_rfl) (by kernel_rfl) (by kernel_rfl) (fun _ _ _ h => h) (Or.inl ⟨by kernel_rfl, ?_⟩) hHeld ?_
    rotate_left
    · (intro w' hSw; (try dsimp only at hSw); (try obtain ⟨hS0, hS1, hS2⟩ := hSw); go_simp; try with_reducible rfl)
    simp only [Act.put, List.setIfInBounds_toArray, List.set_cons_zero, List.set_cons_succ, List.getElem_toArray, List.getElem_cons_succ, List.getElem_cons_zero]
    refine wpAnyH_ready (rs := [3]) (by kernel_rfl) (by simp) (AllReadyH.cons rfl (fun K hK => ?_) AllReadyH.nil)
    go_simp
    (with_reducible refine (rflipped_any _ _ hol).mono ?_)
    rintro e w7 ⟨v, rfl, rfl, hb7⟩
    replace hp := hp.below (((Below.refl _ _).drew).trans hb7)
    clear r0 r1 rf xf
    obtain ⟨y0, y1, r0, r1, xf, rf⟩ := hp.cells
    have p1' := (hb7.cell (p := ⟨w5.heap.size, 1, none⟩) hltb).trans p1
    refine hK.out _ _ ⟨y0, y1, p1'⟩ (fun hHeld => ?_)
    clear hK K
    (try simp only [Act.put, List.setIfInBounds_toArray, List.set_cons_zero, List.set_cons_succ, List.getElem_toArray, List.getElem_cons_succ, List.getElem_cons_zero])
    refine wpAnyH_ready (rs := [4]) (by kernel_rfl) (by simp) (AllReadyH.cons rfl (fun K hK => ?_) AllReadyH.nil)
    go_simp
    refine hK.out _ _ ⟨((World.cell?_setCell_far _ _ _ _ (by simp)).trans (World.cell?_setCell_far _ _ _ _ (by simp))).trans y0, ((World.cell?_setCell_far _ _ _ _ (by simp)).trans (World.cell?_setCell_far _ _ _ _ (by simp))).trans y1, ((World.cell?_setCell_far _ _ _ _ hne).trans (World.cell?_setCell_far _ _ _ _ hne)).trans p1'⟩ (fun hHeld => ?_)
    clear hK K
    (try simp only [Act.put, List.setIfInBounds_toArray, List.set_cons_zero, List.set_cons_succ, List.getElem_toArray, List.getElem_cons_succ, List.getElem_cons_zero])
    refine wpAnyH_take (i := 5) (v := ?_) rfl (by kernel_rfl) (by kernel_rfl) (by kernel_rfl) (fun _ _ _ h => h) (Or.inl ⟨by kernel_rfl, ?_⟩) hHeld ?_
    rotate_left
    · (intro w' hSw; (try dsimp only at hSw); (try obtain ⟨hS0, hS1, hS2⟩ := hSw); go_simp; try with_reducible rfl)
    simp only [Act.put, List.setIfInBounds_toArray, List.set_cons_zero, List.set_cons_succ, List.getElem_toArray, List.getElem_cons_succ, List.getElem_cons_zero]
    refine wpAnyH_take (i := 6) (v := ?_) rfl (by kernel_rfl) (by kernel_rfl) (by kernel_rfl) (fun _ _ _ h => h) (Or.inl ⟨by kernel_rfl, ?_⟩) hHeld ?_
    rotate_left
    · (intro w' hSw; (try dsimp only at hSw); (try obtain ⟨hS0, hS1, hS2⟩ := hSw); go_simp; try with_reducible rfl)
    simp only [Act.put, List.setIfInBounds_toArray, List.set_cons_zero, List.set_cons_succ, List.getElem_toArray, List.getElem_cons_succ, List.getElem_cons_zero]
    refine wpAnyH_done (by kernel_rfl) ?_ _
    go_wp2_with fail
    refine bodyPost_ret (v := .tuple #[.agg #[.slice A n c, .slice A3 t c3], .string ⟨(Pl.flip od).toArray⟩, .int .i64 0]) (by simp [results, Try.results21, go_sem, r0, r1]) rfl ?_
    have hfin := hp.fin (.slice A n c) (.slice A3 t c3)
    refine ⟨_, rfl, ⟨A, c, A3, c3, ?_, ?_, ?_⟩, by first | exact hfin | exact hfin.drew⟩
    · rw [HR.out]; simp [HL.out.1, HL.out.2, HT.out]
    · (try rw [HR.out]); simp only [HL.out.1, HL.out.2, HT.out]; first | exact hr.below hfin | exact hr.below hfin.drew
    · rw [HR.out]; simp only [HL.out.1, HL.out.2, HT.out]; first | exact hs0.below hfin | exact hs0.below hfin.drew
  have q2 : (g == 2) = false := beq_eq_false_iff_ne.2 h2
  have HR := Lib.hid (show R = (T, od, 0) by rw [hR2, if_neg h2]); clear hR2 h1 h2 h3
  go_wp2_with fail
  obtain ⟨V6, hV6⟩ : ∃ V, w5.alloc (.cells #[.string ⟨on.toArray⟩, .string ⟨od.toArray⟩, .string ⟨ow.toArray⟩, .bool oh] 50) = V := ⟨_, rfl⟩
  have hltb : w5.heap.size < V6.heap.size := by rw [← hV6]; simp
  rw [hV6] at hp x0 x1 r0 r1 xf rf p1 p2 p3 ⊢
  clear hV6
  refine wp_region_held_drew (S := (fun w' => w'.cell? ⟨w.heap.size, 0, none⟩ = some (.slice A n c) ∧ w'.cell? ⟨w.heap.size, 1, none⟩ = some (.slice A3 t c3) ∧ w'.cell? ⟨w5.heap.size, 1, none⟩ = some (.string ⟨od.toArray⟩))) (by kernel_rfl) (by exact ⟨x0, x1, p1⟩) (fun hHeld => ?_)
  refine wpAnyH_take (i := 0) (v := ?_) rfl (by kernel_rfl) (by kernel_rfl) (by kernel_rfl) (fun _ _ _ h => h) (Or.inl ⟨by kernel_rfl, ?_⟩) hHeld ?_
  rotate_left
  · (intro w' hSw; (try dsimp only at hSw); (try obtain ⟨hS0, hS1, hS2⟩ := hSw); go_simp; try with_reducible rfl)
  simp only [Act.put, List.setIfInBounds_toArray, List.set_cons_zero, List.set_cons_succ, List.getElem_toArray, List.getElem_cons_succ, List.getElem_cons_zero]
  refine wpAnyH_take (i := 1) (v := ?_) rfl (by kernel_rfl) (by kernel_rfl) (by kernel_rfl) (fun _ _ _ h => h) (Or.inl ⟨by kernel_rfl, ?_⟩) hHeld ?_
  rotate_left
  · (intro w' hSw; (try dsimp only at hSw); (try obtain ⟨hS0, hS1, hS2⟩ := hSw); go_simp; try with_reducible rfl)
  simp only [Act.put, List.setIfInBounds_toArray, List.set_cons_zero, List.set_cons_succ, List.getElem_toArray, List.getElem_cons_succ, List.getElem_cons_zero]
  refine wpAnyH_take (i := 2) (v := ?_) rfl (by kernel_rfl) (by kernel_rfl) (by kernel_rfl) (fun _ _ _ h => h) (Or.inl ⟨by kernel_rfl, ?_⟩) hHeld ?_
  rotate_left
  · (intro w' hSw; (try dsimp only at hSw); (try obtain ⟨hS0, hS1, hS2⟩ := hSw); go_simp; try with_reducible rfl)
  simp only [Act.put, List.setIfInBounds_toArray, List.set_cons_zero, List.set_cons_succ, List.getElem_toArray, List.getElem_cons_succ, List.getElem_cons_zero]
  refine wpAnyH_ready (rs := [3]) (by kernel_rfl) (by simp) (AllReadyH.cons rfl (fun K hK => ?_) AllReadyH.nil)
  go_simp
  refine hK.out _ _ ⟨((World.cell?_setCell_far _ _ _ _ (by simp)).trans (World.cell?_setCell_far _ _ _ _ (by simp))).trans x0, ((World.cell?_setCell_far _ _ _ _ (by simp)).trans (World.cell?_setCell_far _ _ _ _ (by simp))).trans x1, ((World.cell?_setCell_far _ _ _ _ hne).trans (World.cell?_setCell_far _ _ _ _ hne)).trans p1⟩ (fun hHeld => ?_)
  clear hK K
  (try simp only [Act.put, List.setIfInBounds_toArray, List.set_cons_zero, List.set_cons_succ, List.getElem_toArray, List.getElem_cons_succ, List.getElem_cons_zero])
  refine wpAnyH_take (i := 4) (v := ?_) rfl (by kernel_rfl) (by kernel_rfl) (by kernel_rfl) (fun _ _ _ h => h) (Or.inl ⟨by kernel_rfl, ?_⟩) hHeld ?_
  rotate_left
  · (intro w' hSw; (try dsimp only at hSw); (try obtain ⟨hS0, hS1, hS2⟩ := hSw); go_simp; try with_reducible rfl)
  simp only [Act.put, List.setIfInBounds_toArray, List.set_cons_zero, List.set_cons_succ, List.getElem_toArray, List.getElem_cons_succ, List.getElem_cons_zero]
  refine wpAnyH_take (i := 5) (v := ?_) rfl (by kernel_rfl) (by kernel_rfl) (by kernel_rfl) (fun _ _ _ h => h) (Or.inl ⟨by kernel_rfl, ?_⟩) hHeld ?_
  rotate_left
  · (intro w' hSw; (try dsimp only at hSw); (try obtain ⟨hS0, hS1, hS2⟩ := hSw); go_simp; try with_reducible rfl)
  simp only [Act.put, List.setIfInBounds_toArray, List.set_cons_zero, List.set_cons_succ, List.getElem_toArray, List.getElem_cons_succ, List.getElem_cons_zero]
  refine wpAnyH_done (by kernel_rfl) ?_ _
  go_wp2_with fail
  refine bodyPost_ret (v := .tuple #[.agg #[.slice A n c, .slice A3 t c3], .string ⟨od.toArray⟩, .int .i64 0]) (by simp [results, Try.results21, go_sem, r0, r1]) rfl ?_
  have hfin := hp.fin (.slice A n c) (.slice A3 t c3)
  refine ⟨_, rfl, ⟨A, c, A3, c3, ?_, ?_, ?_⟩, by first | exact hfin | exact hfin.drew⟩
  · rw [HR.out]; simp [HL.out.1, HL.out.2, HT.out]
  · (try rw [HR.out]); simp only [HL.out.1, HL.out.2, HT.out]; first | exact hr.below hfin | exact hr.below hfin.drew
  · rw [HR.out]; simp only [HL.out.1, HL.out.2, HT.out]; first | exact hs0.below hfin | exact hs0.below hfin.drew
end Go.Proofs.Ytnapokalopcdkaa
