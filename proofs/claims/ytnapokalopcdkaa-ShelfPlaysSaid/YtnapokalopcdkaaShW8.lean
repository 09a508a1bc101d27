/- The walk of shelf.Get, where it isn't refused. -/
import Derived.Test.YtnapokalopcdkaaShW7
namespace Go.Proofs.Ytnapokalopcdkaa
open Go.RowKit
set_option linter.unusedVariables false
set_option linter.unusedSimpArgs false

set_option maxRecDepth 100000 in
set_option maxHeartbeats 4000000 in
theorem get_good (A A' : Option Addr) (n c m c' : Nat) (l : List Pl.Obj) (F : List Int) (nm : List UInt8) (w : World) (hl : l.length = n) (hF : F.length = m) (hr : SlAt w 4 A n c (objCs l)) (hr' : SlAt w 1 A' m c' (ints F)) (hn : n ≤ 1000000) (hm : m ≤ 1000000)
    (hok : Pl.askE l nm = 0) (hdl : ∀ o ∈ l, o.data.length ≤ 1000000) :
    Calls Try.prog 12 #[.agg #[.slice A n c, .slice A' m c'], .string ⟨nm.toArray⟩] w (RetB (GetOut l F.tail (Pl.getR l (F.headD 0) nm).1 (Pl.getR l (F.headD 0) nm).2) w) := by
  have hris : Pl.Rising l := Pl.chk_rising (Pl.askE_ok hok).1
  have hco := fun w h h' => copied_any A A' n c m c' l F w hl hF h h' hn hm
  have has := fun A A' c c' w h => asked_any A A' n c m c' l nm w hl h hn
  have htk := fun A A' c c' w h => taken_any A A' n c m c' F w hF h
  have hfd := fun A A' c m c' w h => find_any A A' n c m c' l nm w hl h hn hris
  rw [hok] at has
  obtain ⟨f, hf⟩ : ∃ f, F.headD 0 = f := ⟨_, rfl⟩
  obtain ⟨T, hT⟩ : ∃ T, F.tail = T := ⟨_, rfl⟩
  obtain ⟨R, hR⟩ : ∃ R, Pl.getR l f nm = R := ⟨_, rfl⟩
  unfold TakenOut at htk
  simp only [hf, hT] at htk ⊢
  rw [hR]
  have HC := Lib.hid (And.intro hco (And.intro has (And.intro htk (And.intro hfd (And.intro hl (And.intro hF (And.intro hris (And.intro hdl hR))))))))
  clear hco has htk hfd hl hF hok hris hdl hf hT hR
  go_enter Try.func12, Try.ntmps12
  go_wp2_with fail
  have hb0 := bx_new w A A' n c m c'
  obtain ⟨V, hV⟩ : ∃ V, (w.alloc (.cells #[.slice A n c, .slice A' m c'] 25)).alloc (.cells #[.slice none 0 0, .slice none 0 0] 25) = V := ⟨_, rfl⟩
  rw [hV] at hb0 ⊢
  clear hV
  (with_reducible refine (HC.out.1 V (hr.below hb0.bel) (hr'.below hb0.bel)).mono ?_)
  rintro e w1 ⟨v, rfl, ⟨A1, c1, A2, c2, rfl, ho1, ho2⟩, hb1⟩
  rw [HC.out.2.2.2.2.1] at ho1 ⊢
  rw [HC.out.2.2.2.2.2.1] at ho2 ⊢
  have hx1 := hb0.below hb1
  obtain ⟨x0, x1, r0, r1, xf, rf⟩ := hx1.cells
  have hsz := hb0.siz
  have hof := own_off ho2 (B := w.heap.size) (by omega)
  have hof1 := own_off ho2 (B := w.heap.size + 1) (by omega)
  have hp := hx1.put (own_base ho1 (by omega)) (own_sl ho2) hof hof1 (own_ty ho2)
  go_wp2_with fail
  obtain ⟨W, hW⟩ : ∃ W, (w1.setCell ⟨w.heap.size, 0, none⟩ (.slice A1 n c1)).setCell ⟨w.heap.size, 1, none⟩ (.slice A2 m c2) = W := ⟨_, rfl⟩
  rw [hW] at hp ⊢
  clear hW x0 x1 r0 r1 xf rf ho1 ho2 hx1
  (with_reducible refine (HC.out.2.1 _ _ _ _ _ (Rd.own hp.obj)).mono ?_)
  rintro e w2 ⟨v, rfl, rfl, hb2⟩
  have hp2 := hp.below hb2
  obtain ⟨x0, x1, r0, r1, xf, rf⟩ := hp2.cells
  go_wp2_with fail
  (with_reducible refine (HC.out.2.2.1 _ _ _ _ _ hp2.fat).mono ?_)
  rintro e w3 ⟨v, rfl, ⟨A3, c3, rfl, hs3, hbk⟩, hb3⟩
  have hp3 := hp2.below hb3
  clear x0 x1 r0 r1 xf rf hp
  obtain ⟨x0, x1, r0, r1, xf, rf⟩ := hp3.cells
  have hq := hp3.toBx0.put hp3.obj hs3 (by rw [hbk]; exact hof) (by rw [hbk]; exact hof1) (by unfold FTy; rw [hbk]; exact hp3.fty)
  go_wp2_with fail
  obtain ⟨t, ht⟩ : ∃ t, T.length = t := ⟨_, rfl⟩
  rw [ht] at hq ⊢
  obtain ⟨W3, hW3⟩ : ∃ W, (w3.setCell ⟨w.heap.size, 0, none⟩ (.slice A1 n c1)).setCell ⟨w.heap.size, 1, none⟩ (.slice A3 t c3) = W := ⟨_, rfl⟩
  rw [hW3] at hq ⊢
  have HT := Lib.hid ht; clear ht hW3 hs3 hp2 hp3 x0 x1 r0 r1 xf rf
  (with_reducible refine (HC.out.2.2.2.1 _ _ _ _ _ _ (Rd.own hq.obj)).mono ?_)
  rintro e w4 ⟨v, rfl, ⟨i, fd, rfl, hfd⟩, hb4⟩
  have hq4 := hq.below hb4
  have HF := Lib.hid hfd; clear hfd
  obtain ⟨x0, x1, r0, r1, xf, rf⟩ := hq4.cells
  have hRR := HC.out.2.2.2.2.2.2.2.2
  by_cases h4 : f = 4
  · have hR4 : R = ([], 17) := by rw [← hRR, h4]; rfl
    have HR := Lib.hid hR4; clear hR4 hRR
    have hb4 : (f == 4) = true := by simp [h4]
    clear h4
    go_wp2_with fail
    refine bodyPost_ret (v := .tuple #[.agg #[.slice A1 n c1, .slice A3 t c3], .string ⟨#[]⟩, .int .i64 17]) (by simp [results, Try.results12, go_sem, r0, r1]) rfl ?_
    obtain ⟨g1, g2, g3⟩ := hq4.ret
    refine ⟨_, rfl, ⟨A1, c1, A3, c3, ?_, ?_, ?_⟩, by first | exact g3 | exact g3.drew⟩
    · rw [HC.out.2.2.2.2.1, HT.out, HR.out]; rfl
    · rw [HC.out.2.2.2.2.1]; exact g1
    · rw [HT.out]; exact g2
  have hb4' : (f == 4) = false := by simp [h4]
  cases fd with
  | false =>
    have hRn : R = ([], 9) := by rw [← hRR]; unfold Pl.getR; rw [if_neg h4, Pl.found_no HF.out HC.out.2.2.2.2.2.2.1]
    have HR := Lib.hid hRn; clear hRn hRR h4
    by_cases h1 : f = 1
    all_goals
      first
      | have hb1 : (f == 1) = true := by simp [h1]
      | have hb1 : (f == 1) = false := by simp [h1]
      clear h1
      go_wp2_with fail
      refine bodyPost_ret (v := .tuple #[.agg #[.slice A1 n c1, .slice A3 t c3], .string ⟨#[]⟩, .int .i64 9]) (by simp [results, Try.results12, go_sem, r0, r1]) rfl ?_
      obtain ⟨g1, g2, g3⟩ := hq4.ret
      refine ⟨_, rfl, ⟨A1, c1, A3, c3, ?_, ?_, ?_⟩, by first | exact g3 | exact g3.drew⟩
      · rw [HC.out.2.2.2.2.1, HT.out, HR.out]; rfl
      · rw [HC.out.2.2.2.2.1]; exact g1
      · rw [HT.out]; exact g2
  | true =>
    obtain ⟨hi, hnm, hfo⟩ := Pl.found_yes HF.out
    have hin : i < n := by have := HC.out.2.2.2.2.1; omega
    have hib : (0 : Int) ≤ (i : Int) := by omega
    have hib2 : (i : Int) < (n : Int) := by omega
    obtain ⟨b, off, rfl, hltb, p0, p1, p2, p3⟩ := (Rd.own hq4.obj).obj HC.out.2.2.2.2.1 hin
    obtain ⟨o, ho⟩ : ∃ o, l[i] = o := ⟨_, rfl⟩
    have hol : o.data.length ≤ 1000000 := by rw [← ho]; exact HC.out.2.2.2.2.2.2.2.1 _ (List.getElem_mem hi)
    rw [ho] at p0 p1 p2 p3 hfo
    unfold Pl.getR at hRR
    rw [if_neg h4, hfo] at hRR
    simp only at hRR
    have HO := Lib.hid (And.intro ho (And.intro hfo hnm)); clear ho hfo hnm h4
    have hne : w.heap.size + 1 ≠ b := by have := own_off hq4.obj (B := w.heap.size + 1) (by omega); simpa using Ne.symm this
    obtain ⟨on, od, ow, oh⟩ := o
    simp only at p0 p1 p2 p3 hRR hol
    by_cases h1 : f = 1
    · have HR := Lib.hid (show R = ([], 9) by rw [← hRR, if_pos (.inl h1)]); clear hRR
      have hb1 : (f == 1) = true := by simp [h1]
      clear h1
      go_wp2_with fail
      refine bodyPost_ret (v := .tuple #[.agg #[.slice (some ⟨b, off, none⟩) n c1, .slice A3 t c3], .string ⟨#[]⟩, .int .i64 9]) (by simp [results, Try.results12, go_sem, r0, r1]) rfl ?_
      obtain ⟨g1, g2, g3⟩ := hq4.ret
      refine ⟨_, rfl, ⟨(some ⟨b, off, none⟩), c1, A3, c3, ?_, ?_, ?_⟩, by first | exact g3 | exact g3.drew⟩
      · rw [HC.out.2.2.2.2.1, HT.out, HR.out]; rfl
      · rw [HC.out.2.2.2.2.1]; exact g1
      · rw [HT.out]; exact g2
    have hb1 : (f == 1) = false := by simp [h1]
    by_cases h3 : f = 3
    · have hb3 : (f == 3) = true := by simp [h3]
      cases oh with
      | false =>
        have HR := Lib.hid (show R = ([], 9) by rw [← hRR, if_pos (.inr ⟨h3, rfl⟩)]); clear hRR h1 h3
        go_wp2_with fail
        refine bodyPost_ret (v := .tuple #[.agg #[.slice (some ⟨b, off, none⟩) n c1, .slice A3 t c3], .string ⟨#[]⟩, .int .i64 9]) (by simp [results, Try.results12, go_sem, r0, r1]) rfl ?_
        obtain ⟨g1, g2, g3⟩ := hq4.ret
        refine ⟨_, rfl, ⟨(some ⟨b, off, none⟩), c1, A3, c3, ?_, ?_, ?_⟩, by first | exact g3 | exact g3.drew⟩
        · rw [HC.out.2.2.2.2.1, HT.out, HR.out]; rfl
        · rw [HC.out.2.2.2.2.1]; exact g1
        · rw [HT.out]; exact g2
      | true =>
        have HR := Lib.hid (show R = (ow, 0) by rw [← hRR, if_neg (by simp [h1]), if_pos h3]); clear hRR h1 h3
        go_wp2_with fail
        refine wp_region_held_drew (S := (fun w' => w'.cell? ⟨w.heap.size, 0, none⟩ = some (.slice (some ⟨b, off, none⟩) n c1) ∧ w'.cell? ⟨w.heap.size, 1, none⟩ = some (.slice A3 t c3) ∧ w'.cell? ⟨b, off + i * 4 + 2, none⟩ = some (.string ⟨ow.toArray⟩))) (by kernel_rfl) (by exact ⟨x0, x1, p2⟩) (fun hHeld => ?_)
        refine wpAnyH_take (i := 0) (v := ?_) rfl (by kernel_rfl) (by kernel_rfl) (by kernel_rfl) (fun _ _ _ h => h) (Or.inl ⟨by kernel_rfl, ?_⟩) hHeld ?_
        rotate_left
        · (intro w' hSw; (try dsimp only at hSw); (try obtain ⟨hS0, hS1, hS2⟩ := hSw); go_simp; try with_reducible rfl)
        simp only [Act.put, List.setIfInBounds_toArray, List.set_cons_zero, List.set_cons_succ, List.getElem_toArray, List.getElem_cons_succ, List.getElem_cons_zero]
        refine wpAnyH_take (i := 1) (v := ?_) rfl (by kernel_rfl) (by kernel_rfl) (by kernel_rfl) (fun _ _ _ h => h) (Or.inl ⟨by kernel_rfl, ?_⟩) hHeld ?_
        rotate_left
        · (intro w' hSw; (try dsimp only at hSw); (try obtain ⟨hS0, hS1, hS2⟩ := hSw); go_simp; try with_reducible rfl)
        simp only [Act.put, List.setIfInBounds_toArray, List.set_cons_zero, List.set_cons_succ, List.getElem_toArray, List.getElem_cons_succ, List.getElem_cons_zero]
        refine wpAnyH_take (i := 2) (v := ?_) rfl (by kernel_rfl) (by kernel_rfl) (by kernel_rfl) (fun _ _ _ h => h) (Or.inl ⟨by kernel_rfl, ?_⟩) hHeld ?_
        rotate_left
        · (intro w' hSw; (try dsimp only at hSw); (try obtain ⟨hS0, hS1, hS2⟩ := hSw); go_simp; try with_reducible rfl)
        simp only [Act.put, List.setIfInBounds_toArray, List.set_cons_zero, List.set_cons_succ, List.getElem_toArray, List.getElem_cons_succ, List.getElem_cons_zero]
        refine wpAnyH_take (i := 3) (v := ?_) rfl (by kernel_rfl) (by kernel_rfl) (by kernel_rfl) (fun _ _ _ h => h) (Or.inl ⟨by kernel_rfl, ?_⟩) hHeld ?_
        rotate_left
        · (intro w' hSw; (try dsimp only at hSw); (try obtain ⟨hS0, hS1, hS2⟩ := hSw); go_simp; try with_reducible rfl)
        simp only [Act.put, List.setIfInBounds_toArray, List.set_cons_zero, List.set_cons_succ, List.getElem_toArray, List.getElem_cons_succ, List.getElem_cons_zero]
        refine wpAnyH_take (i := 4) (v := ?_) rfl (by kernel_rfl) (by kernel_rfl) (by kernel_rfl) (fun _ _ _ h => h) (Or.inl ⟨by kernel_rfl, ?_⟩) hHeld ?_
        rotate_left
        · (intro w' hSw; (try dsimp only at hSw); (try obtain ⟨hS0, hS1, hS2⟩ := hSw); go_simp; try with_reducible rfl)
        simp only [Act.put, List.setIfInBounds_toArray, List.set_cons_zero, List.set_cons_succ, List.getElem_toArray, List.getElem_cons_succ, List.getElem_cons_zero]
        refine wpAnyH_take (i := 5) (v := ?_) rfl (by kernel_rfl) (by kernel_rfl) (by kernel_rfl) (fun _ _ _ h => h) (Or.inl ⟨by kernel_rfl, ?_⟩) hHeld ?_
        rotate_left
        · (intro w' hSw; (try dsimp only at hSw); (try obtain ⟨hS0, hS1, hS2⟩ := hSw); go_simp; try with_reducible rfl)
        simp only [Act.put, List.setIfInBounds_toArray, List.set_cons_zero, List.set_cons_succ, List.getElem_toArray, List.getElem_cons_succ, List.getElem_cons_zero]
        refine wpAnyH_take (i := 6) (v := ?_) rfl (by kernel_rfl) (by kernel_rfl) (by kernel_rfl) (fun _ _ _ h => h) (Or.inl ⟨by kernel_rfl, ?_⟩) hHeld ?_
        rotate_left
        · (intro w' hSw; (try dsimp only at hSw); (try obtain ⟨hS0, hS1, hS2⟩ := hSw); go_simp; try with_reducible rfl)
        simp only [Act.put, List.setIfInBounds_toArray, List.set_cons_zero, List.set_cons_succ, List.getElem_toArray, List.getElem_cons_succ, List.getElem_cons_zero]
        refine wpAnyH_ready (rs := [7]) (by kernel_rfl) (by simp) (AllReadyH.cons rfl (fun K hK => ?_) AllReadyH.nil)
        go_simp
        refine hK.out _ _ ⟨((World.cell?_setCell_far _ _ _ _ (by simp)).trans (World.cell?_setCell_far _ _ _ _ (by simp))).trans x0, ((World.cell?_setCell_far _ _ _ _ (by simp)).trans (World.cell?_setCell_far _ _ _ _ (by simp))).trans x1, ((World.cell?_setCell_far _ _ _ _ hne).trans (World.cell?_setCell_far _ _ _ _ hne)).trans p2⟩ (fun hHeld => ?_)
        clear hK K
        (try simp only [Act.put, List.setIfInBounds_toArray, List.set_cons_zero, List.set_cons_succ, List.getElem_toArray, List.getElem_cons_succ, List.getElem_cons_zero])
        refine wpAnyH_take (i := 8) (v := ?_) rfl (by kernel_rfl) (by kernel_rfl) (by kernel_rfl) (fun _ _ _ h => h) (Or.inl ⟨by kernel_rfl, ?_⟩) hHeld ?_
        rotate_left
        · (intro w' hSw; (try dsimp only at hSw); (try obtain ⟨hS0, hS1, hS2⟩ := hSw); go_simp; try with_reducible rfl)
        simp only [Act.put, List.setIfInBounds_toArray, List.set_cons_zero, List.set_cons_succ, List.getElem_toArray, List.getElem_cons_succ, List.getElem_cons_zero]
        refine wpAnyH_take (i := 9) (v := ?_) rfl (by kernel_rfl) (by kernel_rfl) (by kernel_rfl) (fun _ _ _ h => h) (Or.inl ⟨by kernel_rfl, ?_⟩) hHeld ?_
        rotate_left
        · (intro w' hSw; (try dsimp only at hSw); (try obtain ⟨hS0, hS1, hS2⟩ := hSw); go_simp; try with_reducible rfl)
        simp only [Act.put, List.setIfInBounds_toArray, List.set_cons_zero, List.set_cons_succ, List.getElem_toArray, List.getElem_cons_succ, List.getElem_cons_zero]
        refine wpAnyH_done (by kernel_rfl) ?_ _
        go_wp2_with fail
        refine bodyPost_ret (v := .tuple #[.agg #[.slice (some ⟨b, off, none⟩) n c1, .slice A3 t c3], .string ⟨ow.toArray⟩, .int .i64 0]) (by simp [results, Try.results12, go_sem, r0, r1]) rfl ?_
        obtain ⟨g1, g2, g3⟩ := hq4.ret
        refine ⟨_, rfl, ⟨(some ⟨b, off, none⟩), c1, A3, c3, ?_, ?_, ?_⟩, by first | exact g3 | exact g3.drew⟩
        · rw [HC.out.2.2.2.2.1, HT.out, HR.out]; rfl
        · rw [HC.out.2.2.2.2.1]; exact g1
        · rw [HT.out]; exact g2
    have hb3 : (f == 3) = false := by simp [h3]
    by_cases h2 : f = 2
    · have hb2 : (f == 2) = true := by simp [h2]
      have HR := Lib.hid (show R = (Pl.flip od, 0) by rw [← hRR, if_neg (by simp [h1, h3]), if_neg h3, if_pos h2]); clear hRR h1 h2 h3
      go_wp2_with fail
      have hlt4 : w.heap.size < w4.heap.size := by have := hq4.siz; omega
      refine wp_region_held_drew (S := (fun w' => w'.cell? ⟨w.heap.size, 0, none⟩ = some (.slice (some ⟨b, off, none⟩) n c1) ∧ w'.cell? ⟨w.heap.size, 1, none⟩ = some (.slice A3 t c3) ∧ w'.cell? ⟨b, off + i * 4 + 1, none⟩ = some (.string ⟨od.toArray⟩))) (by kernel_rfl) (by exact ⟨x0, x1, p1⟩) (fun hHeld => ?_)
      refine wpAnyH_take (i := 0) (v := ?_) rfl (by kernel_rfl) (by kernel_rfl) (by kernel_rfl) (fun _ _ _ h => h) (Or.inl ⟨by kernel_rfl, ?_⟩) hHeld ?_
      rotate_left
      · (intro w' hSw; (try dsimp only at hSw); (try obtain ⟨hS0, hS1, hS2⟩ := hSw); go_simp; try with_reducible rfl)
      simp only [Act.put, List.setIfInBounds_toArray, List.set_cons_zero, List.set_cons_succ, List.getElem_toArray, List.getElem_cons_succ, List.getElem_cons_zero]
      refine wpAnyH_take (i := 1) (v := ?_) rfl (by kernel_rfl) (by kernel_rfl) (by kernel_rfl) (fun _ _ _ h => h) (Or.inl ⟨by kernel_rfl, ?_⟩) hHeld ?_
      rotate_left
      · (intro w' hSw; (try dsimp only at hSw); (try obtain ⟨hS0, hS1, hS2⟩ := hSw); go_simp; try with_reducible rfl)
      simp only [Act.put, List.setIfInBounds_toArray, List.set_cons_zero, List.set_cons_succ, List.getElem_toArray, List.getElem_cons_succ, List.getElem_cons_zero]
      refine wpAnyH_take (i := 2) (v := ?_) rfl (by kernel_rfl) (by kernel_rfl) (by kernel_rfl) (fun _ _ _ h => h) (Or.inl ⟨by kernel_rfl, ?_⟩) hHeld ?_
      rotate_left
      · (intro w' hSw; (try dsimp only at hSw); (try obtain ⟨hS0, hS1, hS2⟩ := hSw); go_simp; try with_reducible rfl)
      simp only [Act.put, List.setIfInBounds_toArray, List.set_cons_zero, List.set_cons_succ, List.getElem_toArray, List.getElem_cons_succ, List.getElem_cons_zero]
      refine wpAnyH_take (i := 3) (v := ?_) rfl (by kernel_rfl) (by kernel_rfl) (by kernel_rfl) (fun _ _ _ h => h) (Or.inl ⟨by kernel_rfl, ?_⟩) hHeld ?_
      rotate_left
      · (intro w' hSw; (try dsimp only at hSw); (try obtain ⟨hS0, hS1, hS2⟩ := hSw); go_simp; try with_reducible rfl)
      simp only [Act.put, List.setIfInBounds_toArray, List.set_cons_zero, List.set_cons_succ, List.getElem_toArray, List.getElem_cons_succ, List.getElem_cons_zero]
      refine wpAnyH_take (i := 4) (v := ?_) rfl (by kernel_rfl) (by kernel_rfl) (by kernel_rfl) (fun _ _ _ h => h) (Or.inl ⟨by kernel_rfl, ?_⟩) hHeld ?_
      rotate_left
      · (intro w' hSw; (try dsimp only at hSw); (try obtain ⟨hS0, hS1, hS2⟩ := hSw); go_simp; try with_reducible rfl)
      simp only [Act.put, List.setIfInBounds_toArray, List.set_cons_zero, List.set_cons_succ, List.getElem_toArray, List.getElem_cons_succ, List.getElem_cons_zero]
      refine wpAnyH_take (i := 5) (v := ?_) rfl (by kernel_rfl) (by kernel_rfl) (by kernel_rfl) (fun _ _ _ h => h) (Or.inl ⟨by kernel_rfl, ?_⟩) hHeld ?_
      rotate_left
      · (intro w' hSw; (try dsimp only at hSw); (try obtain ⟨hS0, hS1, hS2⟩ := hSw); go_simp; try with_reducible rfl)
      simp only [Act.put, List.setIfInBounds_toArray, List.set_cons_zero, List.set_cons_succ, List.getElem_toArray, List.getElem_cons_succ, List.getElem_cons_zero]
      refine wpAnyH_take (i := 6) (v := ?_) rfl (by kernel_rfl) (by kernel_rfl) (by kernel_rfl) (fun _ _ _ h => h) (Or.inl ⟨by kernel_rfl, ?_⟩) hHeld ?_
      rotate_left
      · (intro w' hSw; (try dsimp only at hSw); (try obtain ⟨hS0, hS1, hS2⟩ := hSw); go_simp; try with_reducible rfl)
      simp only [Act.put, List.setIfInBounds_toArray, List.set_cons_zero, List.set_cons_succ, List.getElem_toArray, List.getElem_cons_succ, List.getElem_cons_zero]
      refine wpAnyH_ready (rs := [7]) (by kernel_rfl) (by simp) (AllReadyH.cons rfl (fun K hK => ?_) AllReadyH.nil)
      go_simp
      (with_reducible refine (flipped_any _ _ hol).mono ?_)
      rintro e w5 ⟨v, rfl, rfl, hb5⟩
      have hq5 := hq4.below (((Below.refl _ _).drew).trans hb5)
      clear r0 r1 rf xf
      obtain ⟨y0, y1, r0, r1, xf, rf⟩ := hq5.cells
      have p1' := (hb5.cell (p := ⟨b, off + i * 4 + 1, none⟩) hltb).trans p1
      refine hK.out _ _ ⟨y0, y1, p1'⟩ (fun hHeld => ?_)
      clear hK K
      (try simp only [Act.put, List.setIfInBounds_toArray, List.set_cons_zero, List.set_cons_succ, List.getElem_toArray, List.getElem_cons_succ, List.getElem_cons_zero])
      refine wpAnyH_ready (rs := [8]) (by kernel_rfl) (by simp) (AllReadyH.cons rfl (fun K hK => ?_) AllReadyH.nil)
      go_simp
      refine hK.out _ _ ⟨((World.cell?_setCell_far _ _ _ _ (by simp)).trans (World.cell?_setCell_far _ _ _ _ (by simp))).trans y0, ((World.cell?_setCell_far _ _ _ _ (by simp)).trans (World.cell?_setCell_far _ _ _ _ (by simp))).trans y1, ((World.cell?_setCell_far _ _ _ _ hne).trans (World.cell?_setCell_far _ _ _ _ hne)).trans p1'⟩ (fun hHeld => ?_)
      clear hK K
      (try simp only [Act.put, List.setIfInBounds_toArray, List.set_cons_zero, List.set_cons_succ, List.getElem_toArray, List.getElem_cons_succ, List.getElem_cons_zero])
      refine wpAnyH_take (i := 9) (v := ?_) rfl (by kernel_rfl) (by kernel_rfl) (by kernel_rfl) (fun _ _ _ h => h) (Or.inl ⟨by kernel_rfl, ?_⟩) hHeld ?_
      rotate_left
      · (intro w' hSw; (try dsimp only at hSw); (try obtain ⟨hS0, hS1, hS2⟩ := hSw); go_simp; try with_reducible rfl)
      simp only [Act.put, List.setIfInBounds_toArray, List.set_cons_zero, List.set_cons_succ, List.getElem_toArray, List.getElem_cons_succ, List.getElem_cons_zero]
      refine wpAnyH_take (i := 10) (v := ?_) rfl (by kernel_rfl) (by kernel_rfl) (by kernel_rfl) (fun _ _ _ h => h) (Or.inl ⟨by kernel_rfl, ?_⟩) hHeld ?_
      rotate_left
      · (intro w' hSw; (try dsimp only at hSw); (try obtain ⟨hS0, hS1, hS2⟩ := hSw); go_simp; try with_reducible rfl)
      simp only [Act.put, List.setIfInBounds_toArray, List.set_cons_zero, List.set_cons_succ, List.getElem_toArray, List.getElem_cons_succ, List.getElem_cons_zero]
      refine wpAnyH_done (by kernel_rfl) ?_ _
      go_wp2_with fail
      refine bodyPost_ret (v := .tuple #[.agg #[.slice (some ⟨b, off, none⟩) n c1, .slice A3 t c3], .string ⟨(Pl.flip od).toArray⟩, .int .i64 0]) (by simp [results, Try.results12, go_sem, r0, r1]) rfl ?_
      obtain ⟨g1, g2, g3⟩ := hq5.ret
      refine ⟨_, rfl, ⟨(some ⟨b, off, none⟩), c1, A3, c3, ?_, ?_, ?_⟩, by first | exact g3 | exact g3.drew⟩
      · rw [HC.out.2.2.2.2.1, HT.out, HR.out]; rfl
      · rw [HC.out.2.2.2.2.1]; exact g1
      · rw [HT.out]; exact g2
    · have hb2 : (f == 2) = false := by simp [h2]
      have HR := Lib.hid (show R = (od, 0) by rw [← hRR, if_neg (by simp [h1, h3]), if_neg h3, if_neg h2]); clear hRR h1 h2 h3
      go_wp2_with fail
      refine wp_region_held_drew (S := (fun w' => w'.cell? ⟨w.heap.size, 0, none⟩ = some (.slice (some ⟨b, off, none⟩) n c1) ∧ w'.cell? ⟨w.heap.size, 1, none⟩ = some (.slice A3 t c3) ∧ w'.cell? ⟨b, off + i * 4 + 1, none⟩ = some (.string ⟨od.toArray⟩))) (by kernel_rfl) (by exact ⟨x0, x1, p1⟩) (fun hHeld => ?_)
      refine wpAnyH_take (i := 0) (v := ?_) rfl (by kernel_rfl) (by kernel_rfl) (by kernel_rfl) (fun _ _ _ h => h) (Or.inl ⟨by kernel_rfl, ?_⟩) hHeld ?_
      rotate_left
      · (intro w' hSw; (try dsimp only at hSw); (try obtain ⟨hS0, hS1, hS2⟩ := hSw); go_simp; try with_reducible rfl)
      simp only [Act.put, List.setIfInBounds_toArray, List.set_cons_zero, List.set_cons_succ, List.getElem_toArray, List.getElem_cons_succ, List.getElem_cons_zero]
      refine wpAnyH_take (i := 1) (v := ?_) rfl (by kernel_rfl) (by kernel_rfl) (by kernel_rfl) (fun _ _ _ h => h) (Or.inl ⟨by kernel_rfl, ?_⟩) hHeld ?_
      rotate_left
      · (intro w' hSw; (try dsimp only at hSw); (try obtain ⟨hS0, hS1, hS2⟩ := hSw); go_simp; try with_reducible rfl)
      simp only [Act.put, List.setIfInBounds_toArray, List.set_cons_zero, List.set_cons_succ, List.getElem_toArray, List.getElem_cons_succ, List.getElem_cons_zero]
      refine wpAnyH_take (i := 2) (v := ?_) rfl (by kernel_rfl) (by kernel_rfl) (by kernel_rfl) (fun _ _ _ h => h) (Or.inl ⟨by kernel_rfl, ?_⟩) hHeld ?_
      rotate_left
      · (intro w' hSw; (try dsimp only at hSw); (try obtain ⟨hS0, hS1, hS2⟩ := hSw); go_simp; try with_reducible rfl)
      simp only [Act.put, List.setIfInBounds_toArray, List.set_cons_zero, List.set_cons_succ, List.getElem_toArray, List.getElem_cons_succ, List.getElem_cons_zero]
      refine wpAnyH_take (i := 3) (v := ?_) rfl (by kernel_rfl) (by kernel_rfl) (by kernel_rfl) (fun _ _ _ h => h) (Or.inl ⟨by kernel_rfl, ?_⟩) hHeld ?_
      rotate_left
      · (intro w' hSw; (try dsimp only at hSw); (try obtain ⟨hS0, hS1, hS2⟩ := hSw); go_simp; try with_reducible rfl)
      simp only [Act.put, List.setIfInBounds_toArray, List.set_cons_zero, List.set_cons_succ, List.getElem_toArray, List.getElem_cons_succ, List.getElem_cons_zero]
      refine wpAnyH_take (i := 4) (v := ?_) rfl (by kernel_rfl) (by kernel_rfl) (by kernel_rfl) (fun _ _ _ h => h) (Or.inl ⟨by kernel_rfl, ?_⟩) hHeld ?_
      rotate_left
      · (intro w' hSw; (try dsimp only at hSw); (try obtain ⟨hS0, hS1, hS2⟩ := hSw); go_simp; try with_reducible rfl)
      simp only [Act.put, List.setIfInBounds_toArray, List.set_cons_zero, List.set_cons_succ, List.getElem_toArray, List.getElem_cons_succ, List.getElem_cons_zero]
      refine wpAnyH_take (i := 5) (v := ?_) rfl (by kernel_rfl) (by kernel_rfl) (by kernel_rfl) (fun _ _ _ h => h) (Or.inl ⟨by kernel_rfl, ?_⟩) hHeld ?_
      rotate_left
      · (intro w' hSw; (try dsimp only at hSw); (try obtain ⟨hS0, hS1, hS2⟩ := hSw); go_simp; try with_reducible rfl)
      simp only [Act.put, List.setIfInBounds_toArray, List.set_cons_zero, List.set_cons_succ, List.getElem_toArray, List.getElem_cons_succ, List.getElem_cons_zero]
      refine wpAnyH_take (i := 6) (v := ?_) rfl (by kernel_rfl) (by kernel_rfl) (by kernel_rfl) (fun _ _ _ h => h) (Or.inl ⟨by kernel_rfl, ?_⟩) hHeld ?_
      rotate_left
      · (intro w' hSw; (try dsimp only at hSw); (try obtain ⟨hS0, hS1, hS2⟩ := hSw); go_simp; try with_reducible rfl)
      simp only [Act.put, List.setIfInBounds_toArray, List.set_cons_zero, List.set_cons_succ, List.getElem_toArray, List.getElem_cons_succ, List.getElem_cons_zero]
      refine wpAnyH_ready (rs := [7]) (by kernel_rfl) (by simp) (AllReadyH.cons rfl (fun K hK => ?_) AllReadyH.nil)
      go_simp
      refine hK.out _ _ ⟨((World.cell?_setCell_far _ _ _ _ (by simp)).trans (World.cell?_setCell_far _ _ _ _ (by simp))).trans x0, ((World.cell?_setCell_far _ _ _ _ (by simp)).trans (World.cell?_setCell_far _ _ _ _ (by simp))).trans x1, ((World.cell?_setCell_far _ _ _ _ hne).trans (World.cell?_setCell_far _ _ _ _ hne)).trans p1⟩ (fun hHeld => ?_)
      clear hK K
      (try simp only [Act.put, List.setIfInBounds_toArray, List.set_cons_zero, List.set_cons_succ, List.getElem_toArray, List.getElem_cons_succ, List.getElem_cons_zero])
      refine wpAnyH_take (i := 8) (v := ?_) rfl (by kernel_rfl) (by kernel_rfl) (by kernel_rfl) (fun _ _ _ h => h) (Or.inl ⟨by kernel_rfl, ?_⟩) hHeld ?_
      rotate_left
      · (intro w' hSw; (try dsimp only at hSw); (try obtain ⟨hS0, hS1, hS2⟩ := hSw); go_simp; try with_reducible rfl)
      simp only [Act.put, List.setIfInBounds_toArray, List.set_cons_zero, List.set_cons_succ, List.getElem_toArray, List.getElem_cons_succ, List.getElem_cons_zero]
      refine wpAnyH_take (i := 9) (v := ?_) rfl (by kernel_rfl) (by kernel_rfl) (by kernel_rfl) (fun _ _ _ h => h) (Or.inl ⟨by kernel_rfl, ?_⟩) hHeld ?_
      rotate_left
      · (intro w' hSw; (try dsimp only at hSw); (try obtain ⟨hS0, hS1, hS2⟩ := hSw); go_simp; try with_reducible rfl)
      simp only [Act.put, List.setIfInBounds_toArray, List.set_cons_zero, List.set_cons_succ, List.getElem_toArray, List.getElem_cons_succ, List.getElem_cons_zero]
      refine wpAnyH_done (by kernel_rfl) ?_ _
      go_wp2_with fail
      refine bodyPost_ret (v := .tuple #[.agg #[.slice (some ⟨b, off, none⟩) n c1, .slice A3 t c3], .string ⟨od.toArray⟩, .int .i64 0]) (by simp [results, Try.results12, go_sem, r0, r1]) rfl ?_
      obtain ⟨g1, g2, g3⟩ := hq4.ret
      refine ⟨_, rfl, ⟨(some ⟨b, off, none⟩), c1, A3, c3, ?_, ?_, ?_⟩, by first | exact g3 | exact g3.drew⟩
      · rw [HC.out.2.2.2.2.1, HT.out, HR.out]; rfl
      · rw [HC.out.2.2.2.2.1]; exact g1
      · rw [HT.out]; exact g2
end Go.Proofs.Ytnapokalopcdkaa
