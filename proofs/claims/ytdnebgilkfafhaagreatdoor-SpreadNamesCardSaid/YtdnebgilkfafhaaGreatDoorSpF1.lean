/- The walk of spread's fit. -/
import Derived.Test.YtdnebgilkfafhaaGreatDoorSpF0
namespace Go.Proofs.YtdnebgilkfafhaaGreatDoor
open Go.RowKit
set_option linter.unusedVariables false
set_option linter.unusedSimpArgs false
attribute [local go_sem] ba_get ba_cut ba_add
set_option maxRecDepth 100000 in
set_option maxHeartbeats 8000000 in
theorem sfit_any (nm b : List UInt8) (i : Nat) (hi : i < 5) (w : World) (hb : b.length ≤ 1000000) (hv : VSp w) :
    Calls Tryz.prog 41 #[.string ⟨nm.toArray⟩, .int .i64 (i : Int), .string ⟨b.toArray⟩] w (RetB (fun v _ => v = fitV (Pl.fitP nm i b)) w) := by
  have htx := fun W => texts_any b W (by omega)
  obtain ⟨R, hR⟩ : ∃ R, Pl.fitP nm i b = R := ⟨_, rfl⟩
  rw [hR]
  unfold Pl.fitP at hR
  obtain ⟨l, hl⟩ : ∃ l, (Pl.texts b).1 = l := ⟨_, rfl⟩
  obtain ⟨e, he⟩ : ∃ e, (Pl.texts b).2 = e := ⟨_, rfl⟩
  unfold TextsOut at htx
  rw [hl, he] at htx hR
  have hlen : e = 0 → ∀ s ∈ l, s.length ≤ b.length := fun h0 s hs => by
    have h1 := Pl.rowB_texts b l (by rw [← hl, ← h0, ← he])
    rw [← h1]
    exact mem_rowB hs
  have HR := Lib.hid (And.intro hR (And.intro hv hlen))
  have HT := Lib.hid htx
  clear hR hv htx hl he hlen
  obtain ⟨N, hN⟩ : ∃ N, w.heap.size = N := ⟨_, rfl⟩
  go_enter Tryz.func41, Tryz.ntmps41
  go_upto_region 1 with (fail)
  generalize hV : World.alloc w _ = V
  have hbV : Below N w V := by rw [← hV, ← hN]; exact (Below.refl _ _).alloc (Nat.le_refl _) _
  have hz : FitBx N [.int .i64 0, .string ⟨#[]⟩, .int .i64 0, .string ⟨#[]⟩] V := by rw [← hV, ← hN]; exact heap_alloc_new _ _
  have HV := Lib.hid (And.intro hz hbV)
  have hsV : V.heap.size = N + 1 := by rw [← hV]; simp [hN]
  clear hV hz hbV
  try simp only [hN]
  go_upto_region 2 with (with_reducible refine (HT.out V).mono ?_)
  rintro _ w1 ⟨v, rfl, ⟨sv, rfl, hown⟩, hb1⟩
  have hz1 : FitBx N [.int .i64 0, .string ⟨#[]⟩, .int .i64 0, .string ⟨#[]⟩] w1 := keepB HV.out.1 hb1
  have hbw1 : Below N w w1 := HV.out.2.trans (hb1.mono (by rw [← hN]; exact HV.out.2.size))
  have HW := Lib.hid (And.intro hz1 hbw1)
  clear hz1 hbw1 hb1 HT
  obtain ⟨a0, a1, a2, a3, af⟩ := FitBx.zero HW.out.1
  by_cases he0 : e = 0
  · subst he0
    by_cases h7 : l.length = 7
    · obtain ⟨x0, x1, x2, x3, x4, x5, x6, rfl⟩ := seven h7
      obtain ⟨g, c, rfl, hNg⟩ : ∃ g c, sv = .slice (some ⟨g, 0, none⟩) 7 c ∧ N < g := by
        rcases hown.2 with ⟨_, h0⟩ | ⟨g, cap, cur, h, h1, _⟩
        · cases h0
        · exact ⟨g, cap, h, by omega⟩
      obtain ⟨b0, o0, he0, hg0, hcc⟩ := (Rd.own hown).all (by simp)
      injection he0 with he0
      injection he0 with he1 he2
      subst he1 he2
      have hgc : ∀ j u, (strs [x0, x1, x2, x3, x4, x5, x6])[j]? = some u → w1.cell? ⟨g, j, none⟩ = some u := fun j u hj => by
        have h := hcc j (by rcases Nat.lt_or_ge j (strs [x0, x1, x2, x3, x4, x5, x6]).length with h | h; exact h; rw [List.getElem?_eq_none h] at hj; cases hj)
        rw [Nat.zero_add] at h
        rw [h, hj]
      have g0 := hgc 0 _ rfl
      have g1 := hgc 1 _ rfl
      have g2 := hgc 2 _ rfl
      have HG := Lib.hid hgc
      clear hgc hcc hown h7
      by_cases hx0 : x0 = Pl.hibs
      · subst hx0
        by_cases hx1 : x1 = nm
        · subst hx1
          have hq1 : (x1 == x1) = true := by simp
          have hq0 : (Pl.hibs == [104, 105, 98, 115]) = true := rfl
          have hln := HR.out.2.2 rfl
          have hl2 : x2.length ≤ 1000000 := Nat.le_trans (hln x2 (by simp)) hb
          have hl6 : x6.length ≤ 1000000 := Nat.le_trans (hln x6 (by simp)) hb
          have hl3 : x3.length ≤ 1000000 := Nat.le_trans (hln x3 (by simp)) hb
          clear hln
          obtain ⟨Q, hQ⟩ : ∃ Q, Pl.intQ x2 = Q := ⟨_, rfl⟩
          have hint := int_any x2 w1 (by omega) (HR.out.2.1.below (by rw [hN]; exact HW.out.2)).num
          rw [hQ] at hint
          have HI := Lib.hid hint
          clear hint
          have hRe : R = Pl.fitL x1 i [Pl.hibs, x1, x2, x3, x4, x5, x6] := by rw [← HR.out.1, if_neg (by simp)]
          unfold Pl.fitL at hRe
          rw [if_neg (by simp)] at hRe
          simp only [List.getD_cons_succ, List.getD_cons_zero] at hRe
          rw [hQ] at hRe
          have HRE := Lib.hid hRe
          clear hRe hQ
          unfold intV at HI
          obtain ⟨ok, hok⟩ : ∃ ok, Q.isSome = ok := ⟨_, rfl⟩
          obtain ⟨z, hz⟩ : ∃ z : Int, Q.getD 0 = z := ⟨_, rfl⟩
          rw [hok, hz] at HI
          go_upto_region 4 with (fail)
          clear hq0 hq1 g0 g1
          go_upto_region 5 with (with_reducible refine HI.out.mono ?_)
          rintro _ w2 ⟨v, rfl, rfl, hb2⟩
          have hz2 : FitBx N [.int .i64 0, .string ⟨#[]⟩, .int .i64 0, .string ⟨#[]⟩] w2 := keepB HW.out.1 hb2
          have hbw2 : Below N w w2 := HW.out.2.trans (hb2.mono (by rw [← hN]; exact HW.out.2.size))
          have hgc2 : ∀ j u, (strs [Pl.hibs, x1, x2, x3, x4, x5, x6])[j]? = some u → w2.cell? ⟨g, j, none⟩ = some u := fun j u hj => (hb2.cell (p := ⟨g, j, none⟩) hg0).trans (HG.out j u hj)
          have g3 : w2.cell? ⟨g, 3, none⟩ = some (.string ⟨x3.toArray⟩) := hgc2 3 _ rfl
          have HW2 := Lib.hid (And.intro hz2 (And.intro hbw2 hgc2))
          have hg2 : g < w2.heap.size := Nat.lt_of_lt_of_le hg0 hb2.size
          clear hz2 hbw2 hgc2 hb2 HW HG HI a0 a1 a2 a3 af g2 hg0
          cases ok with
          | false =>
            -- BEGIN
            have hQn : Q = none := by cases Q with
              | none => rfl
              | some y => cases hok
            subst hQn
            clear hok hz
            go_upto_region 5 with (fail)
            refine wp_region_held_drew (S := (fun w' => w'.cell? ⟨g, 3, none⟩ = some (.string ⟨x3.toArray⟩))) (by kernel_rfl) (by exact g3) (fun hHeld => ?_)
            refine tk 0 (v := ?_) rfl ?_ hHeld ?_
            rotate_left
            · (intro w' hSw; (try dsimp only at hSw); go_simp; try with_reducible rfl)
            simp only [Act.put, lay9]
            refine tk 1 (v := ?_) rfl ?_ hHeld ?_
            rotate_left
            · (intro w' hSw; (try dsimp only at hSw); go_simp; try with_reducible rfl)
            simp only [Act.put, lay9]
            refine tk 2 (v := ?_) rfl ?_ hHeld ?_
            rotate_left
            · (intro w' hSw; (try dsimp only at hSw); go_simp; try with_reducible rfl)
            simp only [Act.put, lay9]
            refine wpAnyH_take (i := 3) (v := undef) rfl (by kernel_rfl) (by kernel_rfl) (by kernel_rfl) (fun _ _ _ h => h) (Or.inr ⟨by kernel_rfl, rfl⟩) hHeld ?_
            simp only [Act.put, lay9]
            refine wpAnyH_take (i := 4) (v := undef) rfl (by kernel_rfl) (by kernel_rfl) (by kernel_rfl) (fun _ _ _ h => h) (Or.inr ⟨by kernel_rfl, rfl⟩) hHeld ?_
            simp only [Act.put, lay9]
            refine tk 5 (v := ?_) rfl ?_ hHeld ?_
            rotate_left
            · (intro w' hSw; (try dsimp only at hSw); go_simp; try with_reducible rfl)
            simp only [Act.put, lay9]
            refine tk 6 (v := ?_) rfl ?_ hHeld ?_
            rotate_left
            · (intro w' hSw; (try dsimp only at hSw); go_simp; try with_reducible rfl)
            simp only [Act.put, lay9]
            refine wpAnyH_take (i := 7) (v := undef) rfl (by kernel_rfl) (by kernel_rfl) (by kernel_rfl) (fun _ _ _ h => h) (Or.inr ⟨by kernel_rfl, rfl⟩) hHeld ?_
            simp only [Act.put, lay9]
            refine wpAnyH_take (i := 8) (v := undef) rfl (by kernel_rfl) (by kernel_rfl) (by kernel_rfl) (fun _ _ _ h => h) (Or.inr ⟨by kernel_rfl, rfl⟩) hHeld ?_
            simp only [Act.put, lay9]
            refine tk 9 (v := ?_) rfl ?_ hHeld ?_
            rotate_left
            · (intro w' hSw; (try dsimp only at hSw); go_simp; try with_reducible rfl)
            simp only [Act.put, lay9]
            refine tk 10 (v := ?_) rfl ?_ hHeld ?_
            rotate_left
            · (intro w' hSw; (try dsimp only at hSw); go_simp; try with_reducible rfl)
            simp only [Act.put, lay9]
            refine wpAnyH_take (i := 11) (v := undef) rfl (by kernel_rfl) (by kernel_rfl) (by kernel_rfl) (fun _ _ _ h => h) (Or.inr ⟨by kernel_rfl, rfl⟩) hHeld ?_
            simp only [Act.put, lay9]
            refine wpAnyH_take (i := 12) (v := undef) rfl (by kernel_rfl) (by kernel_rfl) (by kernel_rfl) (fun _ _ _ h => h) (Or.inr ⟨by kernel_rfl, rfl⟩) hHeld ?_
            simp only [Act.put, lay9]
            refine wpAnyH_take (i := 13) (v := undef) rfl (by kernel_rfl) (by kernel_rfl) (by kernel_rfl) (fun _ _ _ h => h) (Or.inr ⟨by kernel_rfl, rfl⟩) hHeld ?_
            simp only [Act.put, lay9]
            refine wpAnyH_take (i := 14) (v := undef) rfl (by kernel_rfl) (by kernel_rfl) (by kernel_rfl) (fun _ _ _ h => h) (Or.inr ⟨by kernel_rfl, rfl⟩) hHeld ?_
            simp only [Act.put, lay9]
            refine wpAnyH_take (i := 15) (v := undef) rfl (by kernel_rfl) (by kernel_rfl) (by kernel_rfl) (fun _ _ _ h => h) (Or.inr ⟨by kernel_rfl, rfl⟩) hHeld ?_
            simp only [Act.put, lay9]
            refine wpAnyH_take (i := 16) (v := undef) rfl (by kernel_rfl) (by kernel_rfl) (by kernel_rfl) (fun _ _ _ h => h) (Or.inr ⟨by kernel_rfl, rfl⟩) hHeld ?_
            simp only [Act.put, lay9]
            refine wpAnyH_take (i := 17) (v := undef) rfl (by kernel_rfl) (by kernel_rfl) (by kernel_rfl) (fun _ _ _ h => h) (Or.inr ⟨by kernel_rfl, rfl⟩) hHeld ?_
            simp only [Act.put, lay9]
            refine tk 18 (v := ?_) rfl ?_ hHeld ?_
            rotate_left
            · (intro w' hSw; (try dsimp only at hSw); go_simp; try with_reducible rfl)
            simp only [Act.put, lay9]
            refine wpAnyH_done (by kernel_rfl) ?_ _
            have HRN := HRE
            obtain ⟨a0, a1, a2, a3, af⟩ := FitBx.zero HW2.out.1
            go_wp2_with fail
            refine bodyPost_ret (results_fit rfl rfl rfl (FitBx.set (FitBx.drewF HW2.out.1) rfl _ _ _ _) rfl) rfl ?_
            exact ⟨_, rfl, by rw [HRN.out]; rfl, by rw [hN]; exact ((((HW2.out.2.1.drew).setCell (p := ⟨N, 0, none⟩) (Nat.le_refl N) _).setCell (p := ⟨N, 1, none⟩) (Nat.le_refl N) _).setCell (p := ⟨N, 2, none⟩) (Nat.le_refl N) _).setCell (p := ⟨N, 3, none⟩) (Nat.le_refl N) _⟩
            -- END
          | true =>
            obtain ⟨y, hy⟩ : ∃ y, Q = some y := Option.isSome_iff_exists.1 hok
            subst hy
            have hyz : y = z := hz
            subst hyz
            clear hok hz
            by_cases hzn : y < 0
            · have HRN := Lib.hid (show R = none by rw [HRE.out]; simp only; rw [if_pos (.inl hzn)])
              -- BEGIN
              clear HRE
              go_upto_region 5 with (fail)
              refine wp_region_held_drew (S := (fun w' => w'.cell? ⟨g, 3, none⟩ = some (.string ⟨x3.toArray⟩))) (by kernel_rfl) (by exact g3) (fun hHeld => ?_)
              refine tk 0 (v := ?_) rfl ?_ hHeld ?_
              rotate_left
              · (intro w' hSw; (try dsimp only at hSw); go_simp; try with_reducible rfl)
              simp only [Act.put, lay9]
              refine tk 1 (v := ?_) rfl ?_ hHeld ?_
              rotate_left
              · (intro w' hSw; (try dsimp only at hSw); go_simp; try with_reducible rfl)
              simp only [Act.put, lay9]
              refine tk 2 (v := ?_) rfl ?_ hHeld ?_
              rotate_left
              · (intro w' hSw; (try dsimp only at hSw); go_simp; try with_reducible rfl)
              simp only [Act.put, lay9]
              refine tk 3 (v := ?_) rfl ?_ hHeld ?_
              rotate_left
              · (intro w' hSw; (try dsimp only at hSw); go_simp; try with_reducible rfl)
              simp only [Act.put, lay9]
              refine tk 4 (v := ?_) rfl ?_ hHeld ?_
              rotate_left
              · (intro w' hSw; (try dsimp only at hSw); go_simp; try with_reducible rfl)
              simp only [Act.put, lay9]
              refine tk 5 (v := ?_) rfl ?_ hHeld ?_
              rotate_left
              · (intro w' hSw; (try dsimp only at hSw); go_simp; try with_reducible rfl)
              simp only [Act.put, lay9]
              refine tk 6 (v := ?_) rfl ?_ hHeld ?_
              rotate_left
              · (intro w' hSw; (try dsimp only at hSw); go_simp; try with_reducible rfl)
              simp only [Act.put, lay9]
              refine wpAnyH_take (i := 7) (v := undef) rfl (by kernel_rfl) (by kernel_rfl) (by kernel_rfl) (fun _ _ _ h => h) (Or.inr ⟨by kernel_rfl, rfl⟩) hHeld ?_
              simp only [Act.put, lay9]
              refine wpAnyH_take (i := 8) (v := undef) rfl (by kernel_rfl) (by kernel_rfl) (by kernel_rfl) (fun _ _ _ h => h) (Or.inr ⟨by kernel_rfl, rfl⟩) hHeld ?_
              simp only [Act.put, lay9]
              refine tk 9 (v := ?_) rfl ?_ hHeld ?_
              rotate_left
              · (intro w' hSw; (try dsimp only at hSw); go_simp; try with_reducible rfl)
              simp only [Act.put, lay9]
              refine tk 10 (v := ?_) rfl ?_ hHeld ?_
              rotate_left
              · (intro w' hSw; (try dsimp only at hSw); go_simp; try with_reducible rfl)
              simp only [Act.put, lay9]
              refine wpAnyH_take (i := 11) (v := undef) rfl (by kernel_rfl) (by kernel_rfl) (by kernel_rfl) (fun _ _ _ h => h) (Or.inr ⟨by kernel_rfl, rfl⟩) hHeld ?_
              simp only [Act.put, lay9]
              refine wpAnyH_take (i := 12) (v := undef) rfl (by kernel_rfl) (by kernel_rfl) (by kernel_rfl) (fun _ _ _ h => h) (Or.inr ⟨by kernel_rfl, rfl⟩) hHeld ?_
              simp only [Act.put, lay9]
              refine wpAnyH_take (i := 13) (v := undef) rfl (by kernel_rfl) (by kernel_rfl) (by kernel_rfl) (fun _ _ _ h => h) (Or.inr ⟨by kernel_rfl, rfl⟩) hHeld ?_
              simp only [Act.put, lay9]
              refine wpAnyH_take (i := 14) (v := undef) rfl (by kernel_rfl) (by kernel_rfl) (by kernel_rfl) (fun _ _ _ h => h) (Or.inr ⟨by kernel_rfl, rfl⟩) hHeld ?_
              simp only [Act.put, lay9]
              refine wpAnyH_take (i := 15) (v := undef) rfl (by kernel_rfl) (by kernel_rfl) (by kernel_rfl) (fun _ _ _ h => h) (Or.inr ⟨by kernel_rfl, rfl⟩) hHeld ?_
              simp only [Act.put, lay9]
              refine wpAnyH_take (i := 16) (v := undef) rfl (by kernel_rfl) (by kernel_rfl) (by kernel_rfl) (fun _ _ _ h => h) (Or.inr ⟨by kernel_rfl, rfl⟩) hHeld ?_
              simp only [Act.put, lay9]
              refine wpAnyH_take (i := 17) (v := undef) rfl (by kernel_rfl) (by kernel_rfl) (by kernel_rfl) (fun _ _ _ h => h) (Or.inr ⟨by kernel_rfl, rfl⟩) hHeld ?_
              simp only [Act.put, lay9]
              refine tk 18 (v := ?_) rfl ?_ hHeld ?_
              rotate_left
              · (intro w' hSw; (try dsimp only at hSw); go_simp; try with_reducible rfl)
              simp only [Act.put, lay9]
              refine wpAnyH_done (by kernel_rfl) ?_ _
              obtain ⟨a0, a1, a2, a3, af⟩ := FitBx.zero HW2.out.1
              go_wp2_with fail
              refine bodyPost_ret (results_fit rfl rfl rfl (FitBx.set (HW2.out.1) rfl _ _ _ _) rfl) rfl ?_
              exact ⟨_, rfl, by rw [HRN.out]; rfl, by rw [hN]; exact ((((HW2.out.2.1.drew).setCell (p := ⟨N, 0, none⟩) (Nat.le_refl N) _).setCell (p := ⟨N, 1, none⟩) (Nat.le_refl N) _).setCell (p := ⟨N, 2, none⟩) (Nat.le_refl N) _).setCell (p := ⟨N, 3, none⟩) (Nat.le_refl N) _⟩
              -- END
            · by_cases hzb : 65536 < y
              · have HRN := Lib.hid (show R = none by rw [HRE.out]; simp only; rw [if_pos (.inr (.inl hzb))])
                -- BEGIN
                have hd1 : decide (y < 0) = false := decide_eq_false hzn
                have hd2 : decide (65536 < y) = true := decide_eq_true hzb
                clear HRE
                go_upto_region 5 with (fail)
                refine wp_region_held_drew (S := (fun w' => w'.cell? ⟨g, 3, none⟩ = some (.string ⟨x3.toArray⟩))) (by kernel_rfl) (by exact g3) (fun hHeld => ?_)
                refine tk 0 (v := ?_) rfl ?_ hHeld ?_
                rotate_left
                · (intro w' hSw; (try dsimp only at hSw); go_simp; try with_reducible rfl)
                simp only [Act.put, lay9]
                refine tk 1 (v := ?_) rfl ?_ hHeld ?_
                rotate_left
                · (intro w' hSw; (try dsimp only at hSw); go_simp; try with_reducible rfl)
                simp only [Act.put, lay9]
                refine tk 2 (v := ?_) rfl ?_ hHeld ?_
                rotate_left
                · (intro w' hSw; (try dsimp only at hSw); go_simp; try with_reducible rfl)
                simp only [Act.put, lay9]
                refine tk 3 (v := ?_) rfl ?_ hHeld ?_
                rotate_left
                · (intro w' hSw; (try dsimp only at hSw); go_simp; try with_reducible rfl)
                simp only [Act.put, lay9]
                refine tk 4 (v := ?_) rfl ?_ hHeld ?_
                rotate_left
                · (intro w' hSw; (try dsimp only at hSw); go_simp; try with_reducible rfl)
                simp only [Act.put, lay9]
                refine tk 5 (v := ?_) rfl ?_ hHeld ?_
                rotate_left
                · (intro w' hSw; (try dsimp only at hSw); go_simp; try with_reducible rfl)
                simp only [Act.put, lay9]
                refine tk 6 (v := ?_) rfl ?_ hHeld ?_
                rotate_left
                · (intro w' hSw; (try dsimp only at hSw); go_simp; try with_reducible rfl)
                simp only [Act.put, lay9]
                refine tk 7 (v := ?_) rfl ?_ hHeld ?_
                rotate_left
                · (intro w' hSw; (try dsimp only at hSw); go_simp; try with_reducible rfl)
                simp only [Act.put, lay9]
                refine tk 8 (v := ?_) rfl ?_ hHeld ?_
                rotate_left
                · (intro w' hSw; (try dsimp only at hSw); go_simp; try with_reducible rfl)
                simp only [Act.put, lay9]
                refine tk 9 (v := ?_) rfl ?_ hHeld ?_
                rotate_left
                · (intro w' hSw; (try dsimp only at hSw); go_simp; try with_reducible rfl)
                simp only [Act.put, lay9]
                refine tk 10 (v := ?_) rfl ?_ hHeld ?_
                rotate_left
                · (intro w' hSw; (try dsimp only at hSw); go_simp; try with_reducible rfl)
                simp only [Act.put, lay9]
                refine wpAnyH_take (i := 11) (v := undef) rfl (by kernel_rfl) (by kernel_rfl) (by kernel_rfl) (fun _ _ _ h => h) (Or.inr ⟨by kernel_rfl, rfl⟩) hHeld ?_
                simp only [Act.put, lay9]
                refine wpAnyH_take (i := 12) (v := undef) rfl (by kernel_rfl) (by kernel_rfl) (by kernel_rfl) (fun _ _ _ h => h) (Or.inr ⟨by kernel_rfl, rfl⟩) hHeld ?_
                simp only [Act.put, lay9]
                refine wpAnyH_take (i := 13) (v := undef) rfl (by kernel_rfl) (by kernel_rfl) (by kernel_rfl) (fun _ _ _ h => h) (Or.inr ⟨by kernel_rfl, rfl⟩) hHeld ?_
                simp only [Act.put, lay9]
                refine wpAnyH_take (i := 14) (v := undef) rfl (by kernel_rfl) (by kernel_rfl) (by kernel_rfl) (fun _ _ _ h => h) (Or.inr ⟨by kernel_rfl, rfl⟩) hHeld ?_
                simp only [Act.put, lay9]
                refine wpAnyH_take (i := 15) (v := undef) rfl (by kernel_rfl) (by kernel_rfl) (by kernel_rfl) (fun _ _ _ h => h) (Or.inr ⟨by kernel_rfl, rfl⟩) hHeld ?_
                simp only [Act.put, lay9]
                refine wpAnyH_take (i := 16) (v := undef) rfl (by kernel_rfl) (by kernel_rfl) (by kernel_rfl) (fun _ _ _ h => h) (Or.inr ⟨by kernel_rfl, rfl⟩) hHeld ?_
                simp only [Act.put, lay9]
                refine wpAnyH_take (i := 17) (v := undef) rfl (by kernel_rfl) (by kernel_rfl) (by kernel_rfl) (fun _ _ _ h => h) (Or.inr ⟨by kernel_rfl, rfl⟩) hHeld ?_
                simp only [Act.put, lay9]
                refine tk 18 (v := ?_) rfl ?_ hHeld ?_
                rotate_left
                · (intro w' hSw; (try dsimp only at hSw); go_simp; try with_reducible rfl)
                simp only [Act.put, lay9]
                refine wpAnyH_done (by kernel_rfl) ?_ _
                obtain ⟨a0, a1, a2, a3, af⟩ := FitBx.zero HW2.out.1
                go_wp2_with fail
                refine bodyPost_ret (results_fit rfl rfl rfl (FitBx.set (HW2.out.1) rfl _ _ _ _) rfl) rfl ?_
                exact ⟨_, rfl, by rw [HRN.out]; rfl, by rw [hN]; exact ((((HW2.out.2.1.drew).setCell (p := ⟨N, 0, none⟩) (Nat.le_refl N) _).setCell (p := ⟨N, 1, none⟩) (Nat.le_refl N) _).setCell (p := ⟨N, 2, none⟩) (Nat.le_refl N) _).setCell (p := ⟨N, 3, none⟩) (Nat.le_refl N) _⟩
                -- END
              · obtain ⟨tx, htx⟩ : ∃ tx, Lib.itoa ((i + 1 : Nat) : Int) = tx := ⟨_, rfl⟩
                have hdec := dec_any ((i + 1 : Nat) : Int) w2.drew ⟨by omega, by omega⟩ ((HR.out.2.1.below (by rw [hN]; exact HW2.out.2.1)).num.tab.below (Below.refl _ _).drew)
                rw [htx] at hdec
                rw [show ((i + 1 : Nat) : Int) = (i : Int) + 1 by omega] at hdec
                have HD := Lib.hid hdec
                clear hdec
                have hd1 : decide (y < 0) = false := decide_eq_false hzn
                have hd2 : decide (65536 < y) = false := decide_eq_false hzb
                have hwi : IntKind.i64.wrap ((i : Int) + 1) = (i : Int) + 1 := by simp [IntKind.wrap, go_sem]; omega
                have hRe2 : R = (if (¬ x3 = tx) then none else if x4.length ≠ 32 ∨ x5 ≠ Pl.sumB [x6] ∨ x6.length ≠ Pl.rowsN y.toNat then none else some ⟨y.toNat, x4, i + 1, x6⟩) := by
                  rw [HRE.out]
                  simp only
                  rw [htx]
                  by_cases h3 : x3 = tx
                  · rw [if_neg (by rintro (h | h | h); exact hzn h; exact hzb h; exact h h3)]
                    exact (if_neg (fun h => h h3)).symm
                  · rw [if_pos (.inr (.inr h3)), if_pos h3]
                have HRE2 := Lib.hid hRe2
                clear hRe2 HRE htx
                go_upto_region 5 with (fail)
                refine wp_region_held_drew (S := (fun w' => w'.cell? ⟨g, 3, none⟩ = some (.string ⟨x3.toArray⟩))) (by kernel_rfl) (by exact g3) (fun hHeld => ?_)
                refine tk 0 (v := ?_) rfl ?_ hHeld ?_
                rotate_left
                · (intro w' hSw; (try dsimp only at hSw); go_simp; try with_reducible rfl)
                simp only [Act.put, lay9]
                refine tk 1 (v := ?_) rfl ?_ hHeld ?_
                rotate_left
                · (intro w' hSw; (try dsimp only at hSw); go_simp; try with_reducible rfl)
                simp only [Act.put, lay9]
                refine tk 2 (v := ?_) rfl ?_ hHeld ?_
                rotate_left
                · (intro w' hSw; (try dsimp only at hSw); go_simp; try with_reducible rfl)
                simp only [Act.put, lay9]
                refine tk 3 (v := ?_) rfl ?_ hHeld ?_
                rotate_left
                · (intro w' hSw; (try dsimp only at hSw); go_simp; try with_reducible rfl)
                simp only [Act.put, lay9]
                refine tk 4 (v := ?_) rfl ?_ hHeld ?_
                rotate_left
                · (intro w' hSw; (try dsimp only at hSw); go_simp; try with_reducible rfl)
                simp only [Act.put, lay9]
                refine tk 5 (v := ?_) rfl ?_ hHeld ?_
                rotate_left
                · (intro w' hSw; (try dsimp only at hSw); go_simp; try with_reducible rfl)
                simp only [Act.put, lay9]
                refine tk 6 (v := ?_) rfl ?_ hHeld ?_
                rotate_left
                · (intro w' hSw; (try dsimp only at hSw); go_simp; try with_reducible rfl)
                simp only [Act.put, lay9]
                refine tk 7 (v := ?_) rfl ?_ hHeld ?_
                rotate_left
                · (intro w' hSw; (try dsimp only at hSw); go_simp; try with_reducible rfl)
                simp only [Act.put, lay9]
                refine tk 8 (v := ?_) rfl ?_ hHeld ?_
                rotate_left
                · (intro w' hSw; (try dsimp only at hSw); go_simp; try with_reducible rfl)
                simp only [Act.put, lay9]
                refine tk 9 (v := ?_) rfl ?_ hHeld ?_
                rotate_left
                · (intro w' hSw; (try dsimp only at hSw); go_simp; try with_reducible rfl)
                simp only [Act.put, lay9]
                refine tk 10 (v := ?_) rfl ?_ hHeld ?_
                rotate_left
                · (intro w' hSw; (try dsimp only at hSw); go_simp; try with_reducible rfl)
                simp only [Act.put, lay9]
                refine tk 11 (v := ?_) rfl ?_ hHeld ?_
                rotate_left
                · (intro w' hSw; (try dsimp only at hSw); go_simp; try with_reducible rfl)
                simp only [Act.put, lay9]
                refine tk 12 (v := ?_) rfl ?_ hHeld ?_
                rotate_left
                · (intro w' hSw; (try dsimp only at hSw); go_simp; try with_reducible rfl)
                simp only [Act.put, lay9]
                refine tk 13 (v := ?_) rfl ?_ hHeld ?_
                rotate_left
                · (intro w' hSw; (try dsimp only at hSw); go_simp; try with_reducible rfl)
                simp only [Act.put, lay9]
                refine tk 14 (v := ?_) rfl ?_ hHeld ?_
                rotate_left
                · (intro w' hSw; (try dsimp only at hSw); go_simp; try with_reducible rfl)
                simp only [Act.put, lay9]
                refine tk 15 (v := ?_) rfl ?_ hHeld ?_
                rotate_left
                · (intro w' hSw; (try dsimp only at hSw); go_simp; try with_reducible rfl)
                simp only [Act.put, lay9]
                refine wpAnyH_ready (rs := [16]) (by kernel_rfl) (by simp) (AllReadyH.cons rfl (fun K hK => ?_) AllReadyH.nil)
                go_simp
                (with_reducible refine HD.out.mono ?_)
                rintro _ w3 ⟨v, rfl, rfl, hb3⟩
                have hb23 : Below w2.heap.size w2 w3 := (Below.refl _ _).drew.trans hb3
                refine hK.out _ _ ((hb23.cell (p := ⟨g, 3, none⟩) hg2).trans g3) (fun hHeld => ?_)
                clear hK K
                (try simp only [Act.put, lay9])
                have hz3 : FitBx N [.int .i64 0, .string ⟨#[]⟩, .int .i64 0, .string ⟨#[]⟩] w3 := keepB HW2.out.1 hb23
                have hbw3 : Below N w w3 := HW2.out.2.1.trans (hb23.mono (by rw [← hN]; exact HW2.out.2.1.size))
                have hgc3 : ∀ j u, (strs [Pl.hibs, x1, x2, x3, x4, x5, x6])[j]? = some u → w3.cell? ⟨g, j, none⟩ = some u := fun j u hj => (hb23.cell (p := ⟨g, j, none⟩) hg2).trans (HW2.out.2.2 j u hj)
                have hg3 : g < w3.heap.size := Nat.lt_of_lt_of_le hg2 hb23.size
                have HW3 := Lib.hid (And.intro hz3 (And.intro hbw3 hgc3))
                by_cases h3 : x3 = tx
                · subst h3
                  have hq3 : (x3 == x3) = true := by simp
                  refine tk 17 (v := ?_) rfl ?_ hHeld ?_
                  rotate_left
                  · (intro w' hSw; (try dsimp only at hSw); go_simp; try with_reducible rfl)
                  simp only [Act.put, lay9]
                  refine tk 18 (v := ?_) rfl ?_ hHeld ?_
                  rotate_left
                  · (intro w' hSw; (try dsimp only at hSw); go_simp; try with_reducible rfl)
                  simp only [Act.put, lay9]
                  refine wpAnyH_done (by kernel_rfl) ?_ _
                  have hRe3 : R = (if x4.length ≠ 32 ∨ x5 ≠ Pl.sumB [x6] ∨ x6.length ≠ Pl.rowsN y.toNat then none else some ⟨y.toNat, x4, i + 1, x6⟩) := by rw [HRE2.out, if_neg (fun h => h rfl)]
                  have HRE3 := Lib.hid hRe3
                  clear hRe3 HRE2 HW2 HD hz3 hbw3 hgc3 hb3 hb23 hg2 hHeld g3 hq3
                  obtain ⟨ny, rfl⟩ : ∃ ny : Nat, y = (ny : Int) := ⟨y.toNat, by omega⟩
                  rw [show ((ny : Int)).toNat = ny by omega] at HRE3
                  obtain ⟨own, hown0⟩ : ∃ own, Pl.sumB [x6] = own := ⟨_, rfl⟩
                  have hol : own.length = 32 := by rw [← hown0]; exact sum_len _
                  obtain ⟨Y, hY⟩ : ∃ Y, w3.heap.size = Y := ⟨_, rfl⟩
                  have hv3 := HR.out.2.1.below (by rw [hN]; exact HW3.out.2.1)
                  have hsum : Calls Tryz.prog 34 #[.slice (some ⟨w3.heap.size, 0, none⟩) 1 1] (w3.alloc (.cells #[.string ⟨x6.toArray⟩] 9)) _ := sum_any (some ⟨w3.heap.size, 0, none⟩) [x6] 1 (fun q hq => by rw [List.mem_singleton.1 hq]; omega) (by simp) (w3.alloc (.cells #[.string ⟨x6.toArray⟩] 9)) (Rd.new w3 [.string ⟨x6.toArray⟩] 9) (hv3.hash.below ((Below.refl _ _).alloc (Nat.le_refl _) _))
                  rw [hown0, hY] at hsum
                  obtain ⟨Lo, hLo⟩ : ∃ Lo, u8s own = Lo := ⟨_, rfl⟩
                  rw [hLo] at hsum
                  have hio : (Tryz.prog.info? 42).map (·.size) = some Lo.toArray.size := by rw [List.size_toArray, ← hLo, u8s_len, hol]; kernel_rfl
                  have hoo : ∀ v ∈ Lo, v.oneCell' = true := by rw [← hLo]; exact u8s_one own
                  have HS := Lib.hid (And.intro hsum (And.intro hio (And.intro hoo (And.intro hLo hown0))))
                  have g6 : w3.cell? ⟨g, 6, none⟩ = some (.string ⟨x6.toArray⟩) := HW3.out.2.2 6 _ rfl
                  clear hsum hio hoo hLo hown0
                  go_upto_region 8 with first
                    | (with_reducible refine HS.out.1.mono ?_)
                  rintro _ w5 ⟨rfl, hb5⟩
                  have hbA : Below w3.heap.size w3 (w3.alloc (.cells #[.string ⟨x6.toArray⟩] 9)) := (Below.refl _ _).alloc (Nat.le_refl _) _
                  have hb35 : Below w3.heap.size w3 w5 := hbA.trans (hb5.mono (by simp))
                  have HT5 := Lib.hid (show (w5.alloc (.cells z32 42)).there w5.heap.size 0 Lo.toArray.size from thereL (heap_alloc_new w5 _) (by rw [z32_eq, List.size_toArray, List.size_toArray, ← HS.out.2.2.2.1, u8s_len, u8s_len, hol]; simp))
                  go_upto_region 8 with (with_reducible refine wpList_store_mid rfl 42 _ _ rfl w5.heap.size 0 Lo.toArray rfl rfl HT5.out HS.out.2.1 (all_oneCell_toArray HS.out.2.2.1) ?_)
                  obtain ⟨M, hM⟩ : ∃ M, w5.heap.size = M := ⟨_, rfl⟩
                  have hd6 : DigAt M own ((w5.alloc (.cells z32 42)).setCells M 0 Lo) := by
                    unfold DigAt
                    rw [HS.out.2.2.2.1, ← hM]
                    exact heap_setCells_all (C := u8s (List.replicate 32 0)) (heap_alloc_new w5 _) (by rw [← HS.out.2.2.2.1, u8s_len, u8s_len, hol]; simp)
                  have hb56 : Below M w5 ((w5.alloc (.cells z32 42)).setCells M 0 Lo) := ((Below.refl _ _).alloc (by omega) _).trans (Lib.below_setCells_w (Nat.le_refl _) Lo 0 _)
                  have hb36 : Below w3.heap.size w3 ((w5.alloc (.cells z32 42)).setCells M 0 Lo) := hb35.trans (hb56.mono (by have := hb35.size; omega))
                  try simp only [hM]
                  generalize hw6 : World.setCells _ M 0 _ = w6
                  rw [show (World.setCells (World.alloc w5 (.cells z32 42)) M 0 Lo) = w6 from hw6] at hd6 hb36
                  have hz6 : FitBx N [.int .i64 0, .string ⟨#[]⟩, .int .i64 0, .string ⟨#[]⟩] w6 := keepB HW3.out.1 hb36
                  have hbw6 : Below N w w6 := HW3.out.2.1.trans (hb36.mono (by rw [← hN]; exact HW3.out.2.1.size))
                  have g4 : w6.cell? ⟨g, 4, none⟩ = some (.string ⟨x4.toArray⟩) := (hb36.cell (p := ⟨g, 4, none⟩) hg3).trans (HW3.out.2.2 4 _ rfl)
                  have g5 : w6.cell? ⟨g, 5, none⟩ = some (.string ⟨x5.toArray⟩) := (hb36.cell (p := ⟨g, 5, none⟩) hg3).trans (HW3.out.2.2 5 _ rfl)
                  replace g6 : w6.cell? ⟨g, 6, none⟩ = some (.string ⟨x6.toArray⟩) := (hb36.cell (p := ⟨g, 6, none⟩) hg3).trans g6
                  have HW6 := Lib.hid (And.intro hz6 (And.intro hbw6 (And.intro trivial hd6)))
                  have hg6 : g < w6.heap.size := Nat.lt_of_lt_of_le hg3 hb36.size
                  clear hz6 hbw6 hd6 hb56 hb36 hw6 hb35 hbA hb5 HT5 hM hHeld
                  have hnn : (0 : Int) ≤ (ny : Int) := by omega
                  by_cases h4 : x4.length = 32
                  · have hI : ((x4.length : Int) != 32) = false := by simp; omega
                    by_cases h5 : x5 = own
                    · subst h5
                      have hJ : (x5 == x5) = true := by simp
                      obtain ⟨rw0, hrw⟩ : ∃ rw0, Pl.rowsN ny = rw0 := ⟨_, rfl⟩
                      have hrows := fun W => rows_any ny W (by omega)
                      rw [hrw] at hrows
                      have HRW := Lib.hid (And.intro hrows hrw)
                      clear hrows hrw
                      refine wp_region_held_drew (S := (fun w' => w'.cell? ⟨g, 4, none⟩ = some (.string ⟨x4.toArray⟩) ∧ w'.cell? ⟨g, 5, none⟩ = some (.string ⟨x5.toArray⟩) ∧ w'.cell? ⟨g, 6, none⟩ = some (.string ⟨x6.toArray⟩) ∧ DigAt M x5 w')) (by kernel_rfl) (by exact ⟨g4, g5, g6, HW6.out.2.2.2⟩) (fun hHeld => ?_)
                      refine tk 0 (v := ?_) rfl ?_ hHeld ?_
                      rotate_left
                      · (intro w' hSw; obtain ⟨hS0, hS1, hS2, hS3⟩ := hSw; go_simp; try with_reducible rfl)
                      simp only [Act.put, lay9]
                      refine tk 1 (v := ?_) rfl ?_ hHeld ?_
                      rotate_left
                      · (intro w' hSw; obtain ⟨hS0, hS1, hS2, hS3⟩ := hSw; go_simp; try with_reducible rfl)
                      simp only [Act.put, lay9]
                      refine tk 2 (v := ?_) rfl ?_ hHeld ?_
                      rotate_left
                      · (intro w' hSw; obtain ⟨hS0, hS1, hS2, hS3⟩ := hSw; go_simp; try with_reducible rfl)
                      simp only [Act.put, lay9]
                      refine tk 3 (v := ?_) rfl ?_ hHeld ?_
                      rotate_left
                      · (intro w' hSw; obtain ⟨hS0, hS1, hS2, hS3⟩ := hSw; go_simp; try with_reducible rfl)
                      simp only [Act.put, lay9]
                      refine tk 4 (v := ?_) rfl ?_ hHeld ?_
                      rotate_left
                      · (intro w' hSw; obtain ⟨hS0, hS1, hS2, hS3⟩ := hSw; go_simp; try with_reducible rfl)
                      simp only [Act.put, lay9]
                      refine tk 5 (v := ?_) rfl ?_ hHeld ?_
                      rotate_left
                      · (intro w' hSw; obtain ⟨hS0, hS1, hS2, hS3⟩ := hSw; go_simp; try with_reducible rfl)
                      simp only [Act.put, lay9]
                      refine tk 6 (v := ?_) rfl ?_ hHeld ?_
                      rotate_left
                      · (intro w' hSw; obtain ⟨hS0, hS1, hS2, hS3⟩ := hSw; go_simp; try with_reducible rfl)
                      simp only [Act.put, lay9]
                      refine tk 7 (v := ?_) rfl ?_ hHeld ?_
                      rotate_left
                      · (intro w' hSw; obtain ⟨hS0, hS1, hS2, hS3⟩ := hSw; go_simp; try with_reducible rfl)
                      simp only [Act.put, lay9]
                      refine tk 8 (v := ?_) rfl ?_ hHeld ?_
                      rotate_left
                      · (intro w' hSw; obtain ⟨hS0, hS1, hS2, hS3⟩ := hSw; go_simp; try with_reducible rfl)
                      simp only [Act.put, lay9]
                      refine tk 9 (v := ?_) rfl ?_ hHeld ?_
                      rotate_left
                      · (intro w' hSw; obtain ⟨hS0, hS1, hS2, hS3⟩ := hSw; go_simp; try with_reducible rfl)
                      simp only [Act.put, lay9]
                      refine tk 10 (v := ?_) rfl ?_ hHeld ?_
                      rotate_left
                      · (intro w' hSw; (try dsimp only at hSw); have hcv := dig_conv hSw.2.2.2 hol; go_simp; try with_reducible rfl)
                      simp only [Act.put, lay9]
                      refine tk 11 (v := ?_) rfl ?_ hHeld ?_
                      rotate_left
                      · (intro w' hSw; obtain ⟨hS0, hS1, hS2, hS3⟩ := hSw; go_simp; try with_reducible rfl)
                      simp only [Act.put, lay9]
                      refine tk 12 (v := ?_) rfl ?_ hHeld ?_
                      rotate_left
                      · (intro w' hSw; obtain ⟨hS0, hS1, hS2, hS3⟩ := hSw; go_simp; try with_reducible rfl)
                      simp only [Act.put, lay9]
                      refine tk 13 (v := ?_) rfl ?_ hHeld ?_
                      rotate_left
                      · (intro w' hSw; obtain ⟨hS0, hS1, hS2, hS3⟩ := hSw; go_simp; try with_reducible rfl)
                      simp only [Act.put, lay9]
                      refine tk 14 (v := ?_) rfl ?_ hHeld ?_
                      rotate_left
                      · (intro w' hSw; obtain ⟨hS0, hS1, hS2, hS3⟩ := hSw; go_simp; try with_reducible rfl)
                      simp only [Act.put, lay9]
                      refine tk 15 (v := ?_) rfl ?_ hHeld ?_
                      rotate_left
                      · (intro w' hSw; obtain ⟨hS0, hS1, hS2, hS3⟩ := hSw; go_simp; try with_reducible rfl)
                      simp only [Act.put, lay9]
                      refine tk 16 (v := ?_) rfl ?_ hHeld ?_
                      rotate_left
                      · (intro w' hSw; obtain ⟨hS0, hS1, hS2, hS3⟩ := hSw; go_simp; try with_reducible rfl)
                      simp only [Act.put, lay9]
                      refine tk 17 (v := ?_) rfl ?_ hHeld ?_
                      rotate_left
                      · (intro w' hSw; obtain ⟨hS0, hS1, hS2, hS3⟩ := hSw; go_simp; try with_reducible rfl)
                      simp only [Act.put, lay9]
                      refine tk 18 (v := ?_) rfl ?_ hHeld ?_
                      rotate_left
                      · (intro w' hSw; obtain ⟨hS0, hS1, hS2, hS3⟩ := hSw; go_simp; try with_reducible rfl)
                      simp only [Act.put, lay9]
                      refine wpAnyH_ready (rs := [19]) (by kernel_rfl) (by simp) (AllReadyH.cons rfl (fun K hK => ?_) AllReadyH.nil)
                      go_simp
                      (with_reducible refine (HRW.out.1 _).mono ?_)
                      rintro _ w7 ⟨rfl, rfl⟩
                      refine hK.out _ _ hHeld (fun hHeld => ?_)
                      clear hK K
                      (try simp only [Act.put, lay9])
                      by_cases h6 : x6.length = rw0
                      · have hK6 : ((x6.length : Int) != (rw0 : Int)) = false := by simp; omega
                        have HRN := Lib.hid (show R = some ⟨ny, x4, i + 1, x6⟩ by rw [HRE3.out, HS.out.2.2.2.2, HRW.out.2]; exact if_neg (by rintro (h | h | h); exact h h4; exact h rfl; exact h h6))
                        refine tk 20 (v := ?_) rfl ?_ hHeld ?_
                        rotate_left
                        · (intro w' hSw; obtain ⟨hS0, hS1, hS2, hS3⟩ := hSw; go_simp; try with_reducible rfl)
                        simp only [Act.put, lay9]
                        refine tk 21 (v := ?_) rfl ?_ hHeld ?_
                        rotate_left
                        · (intro w' hSw; obtain ⟨hS0, hS1, hS2, hS3⟩ := hSw; go_simp; try with_reducible rfl)
                        simp only [Act.put, lay9]
                        refine wpAnyH_done (by kernel_rfl) ?_ _
                        clear HRE3 hHeld
                        have b4 : w6.drew.cell? ⟨g, 4, none⟩ = some (.string ⟨x4.toArray⟩) := g4
                        have b6 : w6.drew.cell? ⟨g, 6, none⟩ = some (.string ⟨x6.toArray⟩) := g6
                        go_upto_region 10 with (fail)
                        refine wp_region_held_drew (S := (fun w' => w'.cell? ⟨g, 4, none⟩ = some (.string ⟨x4.toArray⟩) ∧ w'.cell? ⟨g, 6, none⟩ = some (.string ⟨x6.toArray⟩))) (by kernel_rfl) (by exact ⟨g4, g6⟩) (fun hHeld => ?_)
                        refine tk 0 (v := ?_) rfl ?_ hHeld ?_
                        rotate_left
                        · (intro w' hSw; (try dsimp only at hSw); (try obtain ⟨hS0, hS1⟩ := hSw); go_simp; try with_reducible rfl)
                        simp only [Act.put, lay9]
                        refine tk 1 (v := ?_) rfl ?_ hHeld ?_
                        rotate_left
                        · (intro w' hSw; (try dsimp only at hSw); (try obtain ⟨hS0, hS1⟩ := hSw); go_simp; try with_reducible rfl)
                        simp only [Act.put, lay9]
                        refine tk 2 (v := ?_) rfl ?_ hHeld ?_
                        rotate_left
                        · (intro w' hSw; (try dsimp only at hSw); (try obtain ⟨hS0, hS1⟩ := hSw); go_simp; try with_reducible rfl)
                        simp only [Act.put, lay9]
                        refine tk 3 (v := ?_) rfl ?_ hHeld ?_
                        rotate_left
                        · (intro w' hSw; (try dsimp only at hSw); (try obtain ⟨hS0, hS1⟩ := hSw); go_simp; try with_reducible rfl)
                        simp only [Act.put, lay9]
                        refine tk 4 (v := ?_) rfl ?_ hHeld ?_
                        rotate_left
                        · (intro w' hSw; (try dsimp only at hSw); (try obtain ⟨hS0, hS1⟩ := hSw); go_simp; try with_reducible rfl)
                        simp only [Act.put, lay9]
                        refine tk 5 (v := ?_) rfl ?_ hHeld ?_
                        rotate_left
                        · (intro w' hSw; (try dsimp only at hSw); (try obtain ⟨hS0, hS1⟩ := hSw); go_simp; try with_reducible rfl)
                        simp only [Act.put, lay9]
                        refine tk 6 (v := ?_) rfl ?_ hHeld ?_
                        rotate_left
                        · (intro w' hSw; (try dsimp only at hSw); (try obtain ⟨hS0, hS1⟩ := hSw); go_simp; try with_reducible rfl)
                        simp only [Act.put, lay9]
                        refine tk 7 (v := ?_) rfl ?_ hHeld ?_
                        rotate_left
                        · (intro w' hSw; (try dsimp only at hSw); (try obtain ⟨hS0, hS1⟩ := hSw); go_simp; try with_reducible rfl)
                        simp only [Act.put, lay9]
                        refine tk 8 (v := ?_) rfl ?_ hHeld ?_
                        rotate_left
                        · (intro w' hSw; (try dsimp only at hSw); (try obtain ⟨hS0, hS1⟩ := hSw); go_simp; try with_reducible rfl)
                        simp only [Act.put, lay9]
                        refine tk 9 (v := ?_) rfl ?_ hHeld ?_
                        rotate_left
                        · (intro w' hSw; (try dsimp only at hSw); (try obtain ⟨hS0, hS1⟩ := hSw); go_simp; try with_reducible rfl)
                        simp only [Act.put, lay9]
                        refine tk 10 (v := ?_) rfl ?_ hHeld ?_
                        rotate_left
                        · (intro w' hSw; (try dsimp only at hSw); (try obtain ⟨hS0, hS1⟩ := hSw); go_simp; try with_reducible rfl)
                        simp only [Act.put, lay9]
                        refine wpAnyH_ready (rs := [11]) (by kernel_rfl) (by simp) (AllReadyH.cons rfl (fun K hK => ?_) AllReadyH.nil)
                        obtain ⟨a0, a1, a2, a3, af⟩ := FitBx.zero HW6.out.1
                        go_simp
                        have hset := FitBx.set HW6.out.1 rfl (.int .i64 (ny : Int)) (.string ⟨x4.toArray⟩) (.int .i64 ((i : Int) + 1)) (.string ⟨x6.toArray⟩)
                        have hbw7 := ((((HW6.out.2.1.setCell (p := ⟨N, 0, none⟩) (Nat.le_refl N) (.int .i64 (ny : Int))).setCell (p := ⟨N, 1, none⟩) (Nat.le_refl N) (.string ⟨x4.toArray⟩)).setCell (p := ⟨N, 2, none⟩) (Nat.le_refl N) (.int .i64 ((i : Int) + 1))).setCell (p := ⟨N, 3, none⟩) (Nat.le_refl N) (.string ⟨x6.toArray⟩))
                        have hog : ∀ q, ((((w6.setCell ⟨N, 0, none⟩ (.int .i64 (ny : Int))).setCell ⟨N, 1, none⟩ (.string ⟨x4.toArray⟩)).setCell ⟨N, 2, none⟩ (.int .i64 ((i : Int) + 1))).setCell ⟨N, 3, none⟩ (.string ⟨x6.toArray⟩)).cell? ⟨g, q, none⟩ = w6.cell? ⟨g, q, none⟩ := fun q => (World.cell?_setCell_far _ _ _ _ (by simp; omega)).trans ((World.cell?_setCell_far _ _ _ _ (by simp; omega)).trans ((World.cell?_setCell_far _ _ _ _ (by simp; omega)).trans (World.cell?_setCell_far _ _ _ _ (by simp; omega))))
                        refine hK.out _ _ ⟨(hog 4).trans g4, (hog 6).trans g6⟩ (fun hHeld => ?_)
                        clear hK K
                        (try simp only [Act.put, lay9])
                        refine wpAnyH_ready (rs := [12]) (by kernel_rfl) (by simp) (AllReadyH.cons rfl (fun K hK => ?_) AllReadyH.nil)
                        go_simp
                        refine hK.out _ _ hHeld (fun hHeld => ?_)
                        clear hK K
                        (try simp only [Act.put, lay9])
                        refine wpAnyH_done (by kernel_rfl) ?_ _
                        go_wp2_with fail
                        refine bodyPost_ret (results_fit rfl rfl rfl hset rfl) rfl ?_
                        exact ⟨_, rfl, by rw [HRN.out]; rfl, by rw [hN]; exact hbw7.drew.drew⟩
                      · have hK6 : ((x6.length : Int) != (rw0 : Int)) = true := by simp; omega
                        -- BEGIN
                        have HRN := Lib.hid (show R = none by rw [HRE3.out, HRW.out.2]; exact if_pos (.inr (.inr h6)))
                        refine tk 20 (v := ?_) rfl ?_ hHeld ?_
                        rotate_left
                        · (intro w' hSw; obtain ⟨hS0, hS1, hS2, hS3⟩ := hSw; go_simp; try with_reducible rfl)
                        simp only [Act.put, lay9]
                        refine tk 21 (v := ?_) rfl ?_ hHeld ?_
                        rotate_left
                        · (intro w' hSw; obtain ⟨hS0, hS1, hS2, hS3⟩ := hSw; go_simp; try with_reducible rfl)
                        simp only [Act.put, lay9]
                        refine wpAnyH_done (by kernel_rfl) ?_ _
                        obtain ⟨a0, a1, a2, a3, af⟩ := FitBx.zero HW6.out.1
                        go_wp2_with fail
                        refine bodyPost_ret (results_fit rfl rfl rfl (FitBx.set (HW6.out.1) rfl _ _ _ _) rfl) rfl ?_
                        exact ⟨_, rfl, by rw [HRN.out]; rfl, by rw [hN]; exact ((((HW6.out.2.1.drew).setCell (p := ⟨N, 0, none⟩) (Nat.le_refl N) _).setCell (p := ⟨N, 1, none⟩) (Nat.le_refl N) _).setCell (p := ⟨N, 2, none⟩) (Nat.le_refl N) _).setCell (p := ⟨N, 3, none⟩) (Nat.le_refl N) _⟩
                        -- END
                    · have hJ : (x5 == own) = false := by simpa using h5
                      -- BEGIN
                      have HRN := Lib.hid (show R = none by rw [HRE3.out, HS.out.2.2.2.2]; exact if_pos (.inr (.inl h5)))
                      refine wp_region_held_drew (S := (fun w' => w'.cell? ⟨g, 4, none⟩ = some (.string ⟨x4.toArray⟩) ∧ w'.cell? ⟨g, 5, none⟩ = some (.string ⟨x5.toArray⟩) ∧ w'.cell? ⟨g, 6, none⟩ = some (.string ⟨x6.toArray⟩) ∧ DigAt M own w')) (by kernel_rfl) (by exact ⟨g4, g5, g6, HW6.out.2.2.2⟩) (fun hHeld => ?_)
                      refine tk 0 (v := ?_) rfl ?_ hHeld ?_
                      rotate_left
                      · (intro w' hSw; obtain ⟨hS0, hS1, hS2, hS3⟩ := hSw; go_simp; try with_reducible rfl)
                      simp only [Act.put, lay9]
                      refine tk 1 (v := ?_) rfl ?_ hHeld ?_
                      rotate_left
                      · (intro w' hSw; obtain ⟨hS0, hS1, hS2, hS3⟩ := hSw; go_simp; try with_reducible rfl)
                      simp only [Act.put, lay9]
                      refine tk 2 (v := ?_) rfl ?_ hHeld ?_
                      rotate_left
                      · (intro w' hSw; obtain ⟨hS0, hS1, hS2, hS3⟩ := hSw; go_simp; try with_reducible rfl)
                      simp only [Act.put, lay9]
                      refine tk 3 (v := ?_) rfl ?_ hHeld ?_
                      rotate_left
                      · (intro w' hSw; obtain ⟨hS0, hS1, hS2, hS3⟩ := hSw; go_simp; try with_reducible rfl)
                      simp only [Act.put, lay9]
                      refine tk 4 (v := ?_) rfl ?_ hHeld ?_
                      rotate_left
                      · (intro w' hSw; obtain ⟨hS0, hS1, hS2, hS3⟩ := hSw; go_simp; try with_reducible rfl)
                      simp only [Act.put, lay9]
                      refine tk 5 (v := ?_) rfl ?_ hHeld ?_
                      rotate_left
                      · (intro w' hSw; obtain ⟨hS0, hS1, hS2, hS3⟩ := hSw; go_simp; try with_reducible rfl)
                      simp only [Act.put, lay9]
                      refine tk 6 (v := ?_) rfl ?_ hHeld ?_
                      rotate_left
                      · (intro w' hSw; obtain ⟨hS0, hS1, hS2, hS3⟩ := hSw; go_simp; try with_reducible rfl)
                      simp only [Act.put, lay9]
                      refine tk 7 (v := ?_) rfl ?_ hHeld ?_
                      rotate_left
                      · (intro w' hSw; obtain ⟨hS0, hS1, hS2, hS3⟩ := hSw; go_simp; try with_reducible rfl)
                      simp only [Act.put, lay9]
                      refine tk 8 (v := ?_) rfl ?_ hHeld ?_
                      rotate_left
                      · (intro w' hSw; obtain ⟨hS0, hS1, hS2, hS3⟩ := hSw; go_simp; try with_reducible rfl)
                      simp only [Act.put, lay9]
                      refine tk 9 (v := ?_) rfl ?_ hHeld ?_
                      rotate_left
                      · (intro w' hSw; obtain ⟨hS0, hS1, hS2, hS3⟩ := hSw; go_simp; try with_reducible rfl)
                      simp only [Act.put, lay9]
                      refine tk 10 (v := ?_) rfl ?_ hHeld ?_
                      rotate_left
                      · (intro w' hSw; (try dsimp only at hSw); have hcv := dig_conv hSw.2.2.2 hol; go_simp; try with_reducible rfl)
                      simp only [Act.put, lay9]
                      refine tk 11 (v := ?_) rfl ?_ hHeld ?_
                      rotate_left
                      · (intro w' hSw; obtain ⟨hS0, hS1, hS2, hS3⟩ := hSw; go_simp; try with_reducible rfl)
                      simp only [Act.put, lay9]
                      refine tk 12 (v := ?_) rfl ?_ hHeld ?_
                      rotate_left
                      · (intro w' hSw; obtain ⟨hS0, hS1, hS2, hS3⟩ := hSw; go_simp; try with_reducible rfl)
                      simp only [Act.put, lay9]
                      refine tk 13 (v := ?_) rfl ?_ hHeld ?_
                      rotate_left
                      · (intro w' hSw; obtain ⟨hS0, hS1, hS2, hS3⟩ := hSw; go_simp; try with_reducible rfl)
                      simp only [Act.put, lay9]
                      refine wpAnyH_take (i := 14) (v := undef) rfl (by kernel_rfl) (by kernel_rfl) (by kernel_rfl) (fun _ _ _ h => h) (Or.inr ⟨by kernel_rfl, rfl⟩) hHeld ?_
                      simp only [Act.put, lay9]
                      refine wpAnyH_take (i := 15) (v := undef) rfl (by kernel_rfl) (by kernel_rfl) (by kernel_rfl) (fun _ _ _ h => h) (Or.inr ⟨by kernel_rfl, rfl⟩) hHeld ?_
                      simp only [Act.put, lay9]
                      refine wpAnyH_take (i := 16) (v := undef) rfl (by kernel_rfl) (by kernel_rfl) (by kernel_rfl) (fun _ _ _ h => h) (Or.inr ⟨by kernel_rfl, rfl⟩) hHeld ?_
                      simp only [Act.put, lay9]
                      refine wpAnyH_take (i := 17) (v := undef) rfl (by kernel_rfl) (by kernel_rfl) (by kernel_rfl) (fun _ _ _ h => h) (Or.inr ⟨by kernel_rfl, rfl⟩) hHeld ?_
                      simp only [Act.put, lay9]
                      refine wpAnyH_take (i := 18) (v := undef) rfl (by kernel_rfl) (by kernel_rfl) (by kernel_rfl) (fun _ _ _ h => h) (Or.inr ⟨by kernel_rfl, rfl⟩) hHeld ?_
                      simp only [Act.put, lay9]
                      refine wpAnyH_take (i := 19) (v := undef) rfl (by kernel_rfl) (by kernel_rfl) (by kernel_rfl) (fun _ _ _ h => h) (Or.inr ⟨by kernel_rfl, rfl⟩) hHeld ?_
                      simp only [Act.put, lay9]
                      refine wpAnyH_take (i := 20) (v := undef) rfl (by kernel_rfl) (by kernel_rfl) (by kernel_rfl) (fun _ _ _ h => h) (Or.inr ⟨by kernel_rfl, rfl⟩) hHeld ?_
                      simp only [Act.put, lay9]
                      refine tk 21 (v := ?_) rfl ?_ hHeld ?_
                      rotate_left
                      · (intro w' hSw; obtain ⟨hS0, hS1, hS2, hS3⟩ := hSw; go_simp; try with_reducible rfl)
                      simp only [Act.put, lay9]
                      refine wpAnyH_done (by kernel_rfl) ?_ _
                      obtain ⟨a0, a1, a2, a3, af⟩ := FitBx.zero HW6.out.1
                      go_wp2_with fail
                      refine bodyPost_ret (results_fit rfl rfl rfl (FitBx.set (HW6.out.1) rfl _ _ _ _) rfl) rfl ?_
                      exact ⟨_, rfl, by rw [HRN.out]; rfl, by rw [hN]; exact ((((HW6.out.2.1.drew).setCell (p := ⟨N, 0, none⟩) (Nat.le_refl N) _).setCell (p := ⟨N, 1, none⟩) (Nat.le_refl N) _).setCell (p := ⟨N, 2, none⟩) (Nat.le_refl N) _).setCell (p := ⟨N, 3, none⟩) (Nat.le_refl N) _⟩
                      -- END
                  · have hI : ((x4.length : Int) != 32) = true := by simp; omega
                    -- BEGIN
                    have HRN := Lib.hid (show R = none by rw [HRE3.out]; exact if_pos (.inl h4))
                    refine wp_region_held_drew (S := (fun w' => w'.cell? ⟨g, 4, none⟩ = some (.string ⟨x4.toArray⟩) ∧ w'.cell? ⟨g, 5, none⟩ = some (.string ⟨x5.toArray⟩) ∧ w'.cell? ⟨g, 6, none⟩ = some (.string ⟨x6.toArray⟩) ∧ DigAt M own w')) (by kernel_rfl) (by exact ⟨g4, g5, g6, HW6.out.2.2.2⟩) (fun hHeld => ?_)
                    refine tk 0 (v := ?_) rfl ?_ hHeld ?_
                    rotate_left
                    · (intro w' hSw; obtain ⟨hS0, hS1, hS2, hS3⟩ := hSw; go_simp; try with_reducible rfl)
                    simp only [Act.put, lay9]
                    refine tk 1 (v := ?_) rfl ?_ hHeld ?_
                    rotate_left
                    · (intro w' hSw; obtain ⟨hS0, hS1, hS2, hS3⟩ := hSw; go_simp; try with_reducible rfl)
                    simp only [Act.put, lay9]
                    refine tk 2 (v := ?_) rfl ?_ hHeld ?_
                    rotate_left
                    · (intro w' hSw; obtain ⟨hS0, hS1, hS2, hS3⟩ := hSw; go_simp; try with_reducible rfl)
                    simp only [Act.put, lay9]
                    refine tk 3 (v := ?_) rfl ?_ hHeld ?_
                    rotate_left
                    · (intro w' hSw; obtain ⟨hS0, hS1, hS2, hS3⟩ := hSw; go_simp; try with_reducible rfl)
                    simp only [Act.put, lay9]
                    refine tk 4 (v := ?_) rfl ?_ hHeld ?_
                    rotate_left
                    · (intro w' hSw; obtain ⟨hS0, hS1, hS2, hS3⟩ := hSw; go_simp; try with_reducible rfl)
                    simp only [Act.put, lay9]
                    refine tk 5 (v := ?_) rfl ?_ hHeld ?_
                    rotate_left
                    · (intro w' hSw; obtain ⟨hS0, hS1, hS2, hS3⟩ := hSw; go_simp; try with_reducible rfl)
                    simp only [Act.put, lay9]
                    refine wpAnyH_take (i := 6) (v := undef) rfl (by kernel_rfl) (by kernel_rfl) (by kernel_rfl) (fun _ _ _ h => h) (Or.inr ⟨by kernel_rfl, rfl⟩) hHeld ?_
                    simp only [Act.put, lay9]
                    refine wpAnyH_take (i := 7) (v := undef) rfl (by kernel_rfl) (by kernel_rfl) (by kernel_rfl) (fun _ _ _ h => h) (Or.inr ⟨by kernel_rfl, rfl⟩) hHeld ?_
                    simp only [Act.put, lay9]
                    refine wpAnyH_take (i := 8) (v := undef) rfl (by kernel_rfl) (by kernel_rfl) (by kernel_rfl) (fun _ _ _ h => h) (Or.inr ⟨by kernel_rfl, rfl⟩) hHeld ?_
                    simp only [Act.put, lay9]
                    refine wpAnyH_take (i := 9) (v := undef) rfl (by kernel_rfl) (by kernel_rfl) (by kernel_rfl) (fun _ _ _ h => h) (Or.inr ⟨by kernel_rfl, rfl⟩) hHeld ?_
                    simp only [Act.put, lay9]
                    refine wpAnyH_take (i := 10) (v := undef) rfl (by kernel_rfl) (by kernel_rfl) (by kernel_rfl) (fun _ _ _ h => h) (Or.inr ⟨by kernel_rfl, rfl⟩) hHeld ?_
                    simp only [Act.put, lay9]
                    refine wpAnyH_take (i := 11) (v := undef) rfl (by kernel_rfl) (by kernel_rfl) (by kernel_rfl) (fun _ _ _ h => h) (Or.inr ⟨by kernel_rfl, rfl⟩) hHeld ?_
                    simp only [Act.put, lay9]
                    refine tk 12 (v := ?_) rfl ?_ hHeld ?_
                    rotate_left
                    · (intro w' hSw; obtain ⟨hS0, hS1, hS2, hS3⟩ := hSw; go_simp; try with_reducible rfl)
                    simp only [Act.put, lay9]
                    refine tk 13 (v := ?_) rfl ?_ hHeld ?_
                    rotate_left
                    · (intro w' hSw; obtain ⟨hS0, hS1, hS2, hS3⟩ := hSw; go_simp; try with_reducible rfl)
                    simp only [Act.put, lay9]
                    refine wpAnyH_take (i := 14) (v := undef) rfl (by kernel_rfl) (by kernel_rfl) (by kernel_rfl) (fun _ _ _ h => h) (Or.inr ⟨by kernel_rfl, rfl⟩) hHeld ?_
                    simp only [Act.put, lay9]
                    refine wpAnyH_take (i := 15) (v := undef) rfl (by kernel_rfl) (by kernel_rfl) (by kernel_rfl) (fun _ _ _ h => h) (Or.inr ⟨by kernel_rfl, rfl⟩) hHeld ?_
                    simp only [Act.put, lay9]
                    refine wpAnyH_take (i := 16) (v := undef) rfl (by kernel_rfl) (by kernel_rfl) (by kernel_rfl) (fun _ _ _ h => h) (Or.inr ⟨by kernel_rfl, rfl⟩) hHeld ?_
                    simp only [Act.put, lay9]
                    refine wpAnyH_take (i := 17) (v := undef) rfl (by kernel_rfl) (by kernel_rfl) (by kernel_rfl) (fun _ _ _ h => h) (Or.inr ⟨by kernel_rfl, rfl⟩) hHeld ?_
                    simp only [Act.put, lay9]
                    refine wpAnyH_take (i := 18) (v := undef) rfl (by kernel_rfl) (by kernel_rfl) (by kernel_rfl) (fun _ _ _ h => h) (Or.inr ⟨by kernel_rfl, rfl⟩) hHeld ?_
                    simp only [Act.put, lay9]
                    refine wpAnyH_take (i := 19) (v := undef) rfl (by kernel_rfl) (by kernel_rfl) (by kernel_rfl) (fun _ _ _ h => h) (Or.inr ⟨by kernel_rfl, rfl⟩) hHeld ?_
                    simp only [Act.put, lay9]
                    refine wpAnyH_take (i := 20) (v := undef) rfl (by kernel_rfl) (by kernel_rfl) (by kernel_rfl) (fun _ _ _ h => h) (Or.inr ⟨by kernel_rfl, rfl⟩) hHeld ?_
                    simp only [Act.put, lay9]
                    refine tk 21 (v := ?_) rfl ?_ hHeld ?_
                    rotate_left
                    · (intro w' hSw; obtain ⟨hS0, hS1, hS2, hS3⟩ := hSw; go_simp; try with_reducible rfl)
                    simp only [Act.put, lay9]
                    refine wpAnyH_done (by kernel_rfl) ?_ _
                    obtain ⟨a0, a1, a2, a3, af⟩ := FitBx.zero HW6.out.1
                    go_wp2_with fail
                    refine bodyPost_ret (results_fit rfl rfl rfl (FitBx.set (HW6.out.1) rfl _ _ _ _) rfl) rfl ?_
                    exact ⟨_, rfl, by rw [HRN.out]; rfl, by rw [hN]; exact ((((HW6.out.2.1.drew).setCell (p := ⟨N, 0, none⟩) (Nat.le_refl N) _).setCell (p := ⟨N, 1, none⟩) (Nat.le_refl N) _).setCell (p := ⟨N, 2, none⟩) (Nat.le_refl N) _).setCell (p := ⟨N, 3, none⟩) (Nat.le_refl N) _⟩
                    -- END
                · have hq3 : (x3 == tx) = false := by simpa using h3
                  have HRN := Lib.hid (show R = none by rw [HRE2.out, if_pos h3])
                  refine tk 17 (v := ?_) rfl ?_ hHeld ?_
                  rotate_left
                  · (intro w' hSw; (try dsimp only at hSw); go_simp; try with_reducible rfl)
                  simp only [Act.put, lay9]
                  refine tk 18 (v := ?_) rfl ?_ hHeld ?_
                  rotate_left
                  · (intro w' hSw; (try dsimp only at hSw); go_simp; try with_reducible rfl)
                  simp only [Act.put, lay9]
                  refine wpAnyH_done (by kernel_rfl) ?_ _
                  obtain ⟨a0, a1, a2, a3, af⟩ := FitBx.zero HW3.out.1
                  go_wp2_with fail
                  refine bodyPost_ret (results_fit rfl rfl rfl (FitBx.set (HW3.out.1) rfl _ _ _ _) rfl) rfl ?_
                  exact ⟨_, rfl, by rw [HRN.out]; rfl, by rw [hN]; exact ((((HW3.out.2.1).setCell (p := ⟨N, 0, none⟩) (Nat.le_refl N) _).setCell (p := ⟨N, 1, none⟩) (Nat.le_refl N) _).setCell (p := ⟨N, 2, none⟩) (Nat.le_refl N) _).setCell (p := ⟨N, 3, none⟩) (Nat.le_refl N) _⟩
        · have hq1 : (x1 == nm) = false := by simpa using hx1
          -- BEGIN
          have hRn : R = none := by rw [← HR.out.1, if_neg (by simp)]; unfold Pl.fitL; rw [if_pos (.inr (.inr hx1))]
          have HRN := Lib.hid hRn
          clear hRn
          go_wp2_with fail
          refine bodyPost_ret (results_fit rfl rfl rfl (FitBx.set (HW.out.1) rfl _ _ _ _) rfl) rfl ?_
          exact ⟨_, rfl, by rw [HRN.out]; rfl, by rw [hN]; exact ((((HW.out.2).setCell (p := ⟨N, 0, none⟩) (Nat.le_refl N) _).setCell (p := ⟨N, 1, none⟩) (Nat.le_refl N) _).setCell (p := ⟨N, 2, none⟩) (Nat.le_refl N) _).setCell (p := ⟨N, 3, none⟩) (Nat.le_refl N) _⟩
          -- END
      · have hq0 : (x0 == [104, 105, 98, 115]) = false := by simpa [Pl.hibs] using hx0
        -- BEGIN
        have hRn : R = none := by rw [← HR.out.1, if_neg (by simp)]; unfold Pl.fitL; rw [if_pos (.inr (.inl hx0))]
        have HRN := Lib.hid hRn
        clear hRn
        go_wp2_with fail
        refine bodyPost_ret (results_fit rfl rfl rfl (FitBx.set (HW.out.1) rfl _ _ _ _) rfl) rfl ?_
        exact ⟨_, rfl, by rw [HRN.out]; rfl, by rw [hN]; exact ((((HW.out.2).setCell (p := ⟨N, 0, none⟩) (Nat.le_refl N) _).setCell (p := ⟨N, 1, none⟩) (Nat.le_refl N) _).setCell (p := ⟨N, 2, none⟩) (Nat.le_refl N) _).setCell (p := ⟨N, 3, none⟩) (Nat.le_refl N) _⟩
        -- END
    · have h71 : ((l.length : Int) != 7) = true := by simp; omega
      -- BEGIN
      obtain ⟨A, c, rfl⟩ := own_form' hown
      have hRn : R = none := by rw [← HR.out.1, if_neg (by simp)]; unfold Pl.fitL; rw [if_pos (.inl h7)]
      have HRN := Lib.hid hRn
      clear hRn
      go_wp2_with fail
      refine bodyPost_ret (results_fit rfl rfl rfl (HW.out.1.set rfl _ _ _ _) rfl) rfl ?_
      exact ⟨_, rfl, by rw [HRN.out]; rfl, by rw [hN]; exact (((HW.out.2.setCell (p := ⟨N, 0, none⟩) (Nat.le_refl N) _).setCell (p := ⟨N, 1, none⟩) (Nat.le_refl N) _).setCell (p := ⟨N, 2, none⟩) (Nat.le_refl N) _).setCell (p := ⟨N, 3, none⟩) (Nat.le_refl N) _⟩
      -- END
  · have he1 : ((e : Int) != 0) = true := by simp; omega
    -- BEGIN
    obtain ⟨A, c, rfl⟩ := own_form' hown
    have hRn : R = none := by rw [← HR.out.1, if_pos he0]
    have HRN := Lib.hid hRn
    clear hRn
    go_wp2_with fail
    refine bodyPost_ret (results_fit rfl rfl rfl (HW.out.1.set rfl _ _ _ _) rfl) rfl ?_
    exact ⟨_, rfl, by rw [HRN.out]; rfl, by rw [hN]; exact (((HW.out.2.setCell (p := ⟨N, 0, none⟩) (Nat.le_refl N) _).setCell (p := ⟨N, 1, none⟩) (Nat.le_refl N) _).setCell (p := ⟨N, 2, none⟩) (Nat.le_refl N) _).setCell (p := ⟨N, 3, none⟩) (Nat.le_refl N) _⟩
    -- END
end Go.Proofs.YtdnebgilkfafhaaGreatDoor
