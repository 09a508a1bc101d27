/- Of any policy the text, and of any text the policy, are the document's; there and back. For every policy and every text. -/
import Derived.Test.YtmncgnmgdkdhaaaGreatDoorPolLaid
import Derived.Test.YtmncgnmgdkdhaaaGreatDoorTie
import Derived.Test.YtmncgnmgdkdhaaaGreatDoorCards
import Derived.Test.YtmncgnmgdkdhaaaGreatDoorPolAv
import Derived.Test.YtmncgnmgdkdhaaaGreatDoorPolOfR
import Derived.Test.YtmncgnmgdkdhaaaGreatDoorOpenPo
import Derived.Test.YtmncgnmgdkdhaaaGreatDoorShaped
import Derived.Laws.StructEq
namespace Go.Proofs.YtmncgnmgdkdhaaaGreatDoor
open Go.ChangeShapes Go.WideShapes Go.ChangeAt Go.RowKit
set_option linter.unusedVariables false
set_option linter.unusedSimpArgs false
theorem txP_len (p : Pl.Pol) : (Pl.txP p).length ≤ 200 := by
  unfold Pl.txP
  split
  · next h =>
    obtain ⟨h1, h2, h3, h4⟩ := Pl.polE_fit h
    have g1 := (Pl.itoa_len (Pl.fit_I64 h1)).2
    have g2 := (Pl.itoa_len (Pl.fit_I64 h2)).2
    have g3 := (Pl.itoa_len (Pl.fit_I64 h3)).2
    have g4 := (Pl.itoa_len (Pl.fit_I64 h4)).2
    unfold Pl.polT
    simp only [List.length_append, List.length_cons, List.length_nil]
    omega
  · simp
set_option maxRecDepth 100000 in
set_option maxHeartbeats 4000000 in
theorem policyTexts_walk (p : Pl.Pol) (s : List UInt8) (w : World) (hpi : I64 p.d ∧ I64 p.w ∧ I64 p.mo ∧ I64 p.y) (hsz : s.length ≤ 140737488355328) (hv : VPol w) : Calls Tryz.prog 3 #[polV p, .string ⟨s.toArray⟩] w (RetB (fun v _ => v = .bool true) w) := by
  have hal := fun W h => alive_any W h
  have hof := fun W h1 h2 => of_any s W h1 h2
  have hrf := fun W h => rpof_any s W h
  rw [← Pl.ofW_ofD] at hrf
  have htx := fun W h => text_any p W h
  have hrt := fun W => rtext_any p W
  have hck := fun W => pcheck_any p W
  have hbk := fun W h => of_any (Pl.txP p) W (by have := txP_len p; omega) h
  obtain ⟨Q, hQ⟩ : ∃ Q, Pl.ofW s = Q := ⟨_, rfl⟩
  rw [hQ] at hof hrf
  obtain ⟨R, hR⟩ : ∃ R, Pl.ofW (Pl.txP p) = R := ⟨_, rfl⟩
  rw [hR] at hbk
  obtain ⟨t, ht⟩ : ∃ t, Pl.txP p = t := ⟨_, rfl⟩
  rw [ht] at htx hrt hbk
  obtain ⟨E, hE⟩ : ∃ E, Pl.polE p = E := ⟨_, rfl⟩
  rw [hE] at hck
  have hcase : (E = 0 ∧ R = some p) ∨ (E ≠ 0 ∧ R = none) := by
    by_cases h : E = 0
    · exact .inl ⟨h, by rw [← hR]; unfold Pl.txP; rw [if_pos (hE.trans h)]; exact (Pl.ofW_iff _ _).2 ⟨hE.trans h, rfl⟩⟩
    · refine .inr ⟨h, ?_⟩
      rw [← hR]; unfold Pl.txP; rw [if_neg (by rw [hE]; exact h)]
      exact Pl.ofW_short (by decide)
  have hpv : polV p = .agg #[.int .i64 p.d, .int .i64 p.w, .int .i64 p.mo, .int .i64 p.y] := rfl
  rw [hpv] at htx hrt hck ⊢
  obtain ⟨n0, hn0⟩ : ∃ n, n = p.d := ⟨_, rfl⟩
  obtain ⟨n1, hn1⟩ : ∃ n, n = p.w := ⟨_, rfl⟩
  obtain ⟨n2, hn2⟩ : ∃ n, n = p.mo := ⟨_, rfl⟩
  obtain ⟨n3, hn3⟩ : ∃ n, n = p.y := ⟨_, rfl⟩
  rw [← hn0, ← hn1, ← hn2, ← hn3] at htx hrt hck ⊢
  have hbk2 : ∃ (m : Pl.Pol) (c : Int), (∀ W, VPol W → Calls Tryz.prog 11 #[.string ⟨t.toArray⟩] W (RetB (fun v _ => v = .tuple #[polV m, .int .i64 c]) W)) ∧ ((E = 0 ∧ m = p ∧ c = 0) ∨ (E ≠ 0 ∧ c = 3)) := by
    rcases hcase with ⟨h1, rfl⟩ | ⟨h1, rfl⟩
    · exact ⟨p, 0, hbk, .inl ⟨h1, rfl, rfl⟩⟩
    · exact ⟨⟨0, 0, 0, 0⟩, 3, hbk, .inr ⟨h1, rfl⟩⟩
  obtain ⟨m, c, hbk2, hc⟩ := hbk2
  obtain ⟨q, f, hqf⟩ : ∃ (q : Pl.Pol) (f : Int), polO Q = .tuple #[polV q, .int .i64 f] := ⟨_, _, rfl⟩
  rw [hqf] at hof hrf
  unfold polV at hof hrf hbk2
  have HH := Lib.hid (And.intro hal (And.intro hof (And.intro hrf (And.intro htx (And.intro hrt (And.intro hck (And.intro hbk2 (And.intro hc (And.intro hv (And.intro hn0 (And.intro hn1 (And.intro hn2 hn3))))))))))))
  clear hal hof hrf htx hrt hck hbk hbk2 hc hv hn0 hn1 hn2 hn3 hcase hqf hQ hR ht hE hpv
  obtain ⟨q0, q1, q2, q3⟩ := q
  obtain ⟨m0, m1, m2, m3⟩ := m
  dsimp only at HH
  by_cases hsl : 200 < s.length
  · have hl : decide ((200 : Int) < (s.length : Int)) = true := decide_eq_true (by omega)
    go_enter Tryz.func3, Tryz.ntmps3
    go_wp2_with fail
    refine (HH.out.1 _ (VPol.keep HH.out.2.2.2.2.2.2.2.2.1 ((Below.refl w.heap.size w).alloc (Nat.le_refl _) _) (Nat.le_refl _))).mono ?_
    rintro e w1 ⟨v, rfl, rfl, hb1⟩
    go_wp2_with fail
    go_ret
    exact ⟨_, rfl, rfl, ((Below.refl _ _).alloc (Nat.le_refl _) _).trans (hb1.mono (by simp))⟩
  · have hl : decide ((200 : Int) < (s.length : Int)) = false := decide_eq_false (by omega)
    go_enter Tryz.func3, Tryz.ntmps3
    go_wp2_with fail
    generalize hV : World.alloc w _ = V
    have hbV : Below w.heap.size w V := by rw [← hV]; exact (Below.refl _ _).alloc (Nat.le_refl _) _
    have hp : V.heap[w.heap.size]? = some (.cells #[.int .i64 n0, .int .i64 n1, .int .i64 n2, .int .i64 n3] 23 (0, 0)) := by rw [← hV]; exact heap_alloc_new w _
    have hvV := VPol.keep HH.out.2.2.2.2.2.2.2.2.1 hbV (Nat.le_refl _)
    clear hV
    refine (HH.out.1 _ hvV).mono ?_
    rintro e w1 ⟨v, rfl, rfl, hb1⟩
    replace hp := (hb1.block _ (blk_lt hp)).trans hp
    replace hbV := hbV.trans (hb1.mono hbV.size)
    replace hvV := hvV.below hb1
    clear hb1
    go_wp2_with fail
    refine (HH.out.2.1 _ (by omega) hvV).mono ?_
    rintro e w2 ⟨v, rfl, rfl, hb2⟩
    replace hp := (hb2.block _ (blk_lt hp)).trans hp
    replace hbV := hbV.trans (hb2.mono hbV.size)
    replace hvV := hvV.below hb2
    clear hb2
    go_upto_region 6 with (fail)
    generalize hV : World.alloc w2 _ = V2
    have hq : V2.heap[w2.heap.size]? = some (.cells #[.int .i64 q0, .int .i64 q1, .int .i64 q2, .int .i64 q3] 23 (0, 0)) := by rw [← hV]; exact heap_alloc_new w2 _
    have hb2 : Below w2.heap.size w2 V2 := by rw [← hV]; exact (Below.refl _ _).alloc (Nat.le_refl _) _
    replace hp := (hb2.block _ (blk_lt hp)).trans hp
    replace hbV := hbV.trans (hb2.mono hbV.size)
    replace hvV := hvV.below hb2
    clear hV hb2
    generalize w2.heap.size = Bq at hq ⊢
    go_wp2_with fail
    refine (HH.out.2.2.1 _ (by omega)).mono ?_
    rintro e w3 ⟨v, rfl, rfl, hb3⟩
    replace hp := (hb3.block _ (blk_lt hp)).trans hp
    replace hq := (hb3.block _ (blk_lt hq)).trans hq
    replace hbV := hbV.trans (hb3.mono hbV.size)
    replace hvV := hvV.below hb3
    clear hb3
    go_upto_region 7 with (fail)
    generalize hV : World.alloc w3 _ = V3
    have hr : V3.heap[w3.heap.size]? = some (.cells #[.int .i64 q0, .int .i64 q1, .int .i64 q2, .int .i64 q3] 23 (0, 0)) := by rw [← hV]; exact heap_alloc_new w3 _
    have hb3 : Below w3.heap.size w3 V3 := by rw [← hV]; exact (Below.refl _ _).alloc (Nat.le_refl _) _
    replace hp := (hb3.block _ (blk_lt hp)).trans hp
    replace hq := (hb3.block _ (blk_lt hq)).trans hq
    replace hbV := hbV.trans (hb3.mono hbV.size)
    replace hvV := hvV.below hb3
    clear hV hb3
    generalize w3.heap.size = Br at hr ⊢
    have x0 : V3.cell? ⟨w.heap.size, 0, none⟩ = some (.int .i64 n0) := cell_row V3 _ 0 _ _ hp
    have x1 : V3.cell? ⟨w.heap.size, 1, none⟩ = some (.int .i64 n1) := cell_row V3 _ 1 _ _ hp
    have x2 : V3.cell? ⟨w.heap.size, 2, none⟩ = some (.int .i64 n2) := cell_row V3 _ 2 _ _ hp
    have x3 : V3.cell? ⟨w.heap.size, 3, none⟩ = some (.int .i64 n3) := cell_row V3 _ 3 _ _ hp
    go_wp2_with fail
    refine (HH.out.2.2.2.1 _ hvV.num.tab).mono ?_
    rintro e w4 ⟨v, rfl, rfl, hb4⟩
    clear x0 x1 x2 x3
    replace hp := (hb4.block _ (blk_lt hp)).trans hp
    replace hq := (hb4.block _ (blk_lt hq)).trans hq
    replace hr := (hb4.block _ (blk_lt hr)).trans hr
    replace hbV := hbV.trans (hb4.mono hbV.size)
    replace hvV := hvV.below hb4
    clear hb4
    go_wp2_with fail
    refine (HH.out.2.2.2.2.2.2.1 _ hvV).mono ?_
    rintro e w5 ⟨v, rfl, rfl, hb5⟩
    replace hp := (hb5.block _ (blk_lt hp)).trans hp
    replace hq := (hb5.block _ (blk_lt hq)).trans hq
    replace hr := (hb5.block _ (blk_lt hr)).trans hr
    replace hbV := hbV.trans (hb5.mono hbV.size)
    replace hvV := hvV.below hb5
    clear hb5
    go_upto_region 9 with (fail)
    generalize hV : World.alloc w5 _ = V5
    have hm : V5.heap[w5.heap.size]? = some (.cells #[.int .i64 m0, .int .i64 m1, .int .i64 m2, .int .i64 m3] 23 (0, 0)) := by rw [← hV]; exact heap_alloc_new w5 _
    have hb5 : Below w5.heap.size w5 V5 := by rw [← hV]; exact (Below.refl _ _).alloc (Nat.le_refl _) _
    replace hp := (hb5.block _ (blk_lt hp)).trans hp
    replace hq := (hb5.block _ (blk_lt hq)).trans hq
    replace hr := (hb5.block _ (blk_lt hr)).trans hr
    replace hbV := hbV.trans (hb5.mono hbV.size)
    replace hvV := hvV.below hb5
    clear hV hb5
    generalize w5.heap.size = Bm at hm ⊢
    have x0 : V5.cell? ⟨w.heap.size, 0, none⟩ = some (.int .i64 n0) := cell_row V5 _ 0 _ _ hp
    have x1 : V5.cell? ⟨w.heap.size, 1, none⟩ = some (.int .i64 n1) := cell_row V5 _ 1 _ _ hp
    have x2 : V5.cell? ⟨w.heap.size, 2, none⟩ = some (.int .i64 n2) := cell_row V5 _ 2 _ _ hp
    have x3 : V5.cell? ⟨w.heap.size, 3, none⟩ = some (.int .i64 n3) := cell_row V5 _ 3 _ _ hp
    have y0 : V5.cell? ⟨Bq, 0, none⟩ = some (.int .i64 q0) := cell_row V5 _ 0 _ _ hq
    have y1 : V5.cell? ⟨Bq, 1, none⟩ = some (.int .i64 q1) := cell_row V5 _ 1 _ _ hq
    have y2 : V5.cell? ⟨Bq, 2, none⟩ = some (.int .i64 q2) := cell_row V5 _ 2 _ _ hq
    have y3 : V5.cell? ⟨Bq, 3, none⟩ = some (.int .i64 q3) := cell_row V5 _ 3 _ _ hq
    have z0 : V5.cell? ⟨Br, 0, none⟩ = some (.int .i64 q0) := cell_row V5 _ 0 _ _ hr
    have z1 : V5.cell? ⟨Br, 1, none⟩ = some (.int .i64 q1) := cell_row V5 _ 1 _ _ hr
    have z2 : V5.cell? ⟨Br, 2, none⟩ = some (.int .i64 q2) := cell_row V5 _ 2 _ _ hr
    have z3 : V5.cell? ⟨Br, 3, none⟩ = some (.int .i64 q3) := cell_row V5 _ 3 _ _ hr
    go_wp2_with fail
    refine (HH.out.2.2.2.2.1 _).mono ?_
    rintro e w6 ⟨v, rfl, rfl, hb6⟩
    replace hp := (hb6.block _ (blk_lt hp)).trans hp
    replace hm := (hb6.block _ (blk_lt hm)).trans hm
    replace hbV := hbV.trans (hb6.mono hbV.size)
    clear hb6 x0 x1 x2 x3 y0 y1 y2 y3 z0 z1 z2 z3 hq hr hvV
    have x0 : w6.cell? ⟨w.heap.size, 0, none⟩ = some (.int .i64 n0) := cell_row w6 _ 0 _ _ hp
    have x1 : w6.cell? ⟨w.heap.size, 1, none⟩ = some (.int .i64 n1) := cell_row w6 _ 1 _ _ hp
    have x2 : w6.cell? ⟨w.heap.size, 2, none⟩ = some (.int .i64 n2) := cell_row w6 _ 2 _ _ hp
    have x3 : w6.cell? ⟨w.heap.size, 3, none⟩ = some (.int .i64 n3) := cell_row w6 _ 3 _ _ hp
    have htt : (t == t) = true := by simp
    go_wp2_with fail
    refine (HH.out.2.2.2.2.2.1 _).mono ?_
    rintro e w7 ⟨v, rfl, rfl, hb7⟩
    replace hp := (hb7.block _ (blk_lt hp)).trans hp
    replace hm := (hb7.block _ (blk_lt hm)).trans hm
    replace hbV := hbV.trans (hb7.mono hbV.size)
    clear hb7 x0 x1 x2 x3
    have x0 : w7.cell? ⟨w.heap.size, 0, none⟩ = some (.int .i64 n0) := cell_row w7 _ 0 _ _ hp
    have x1 : w7.cell? ⟨w.heap.size, 1, none⟩ = some (.int .i64 n1) := cell_row w7 _ 1 _ _ hp
    have x2 : w7.cell? ⟨w.heap.size, 2, none⟩ = some (.int .i64 n2) := cell_row w7 _ 2 _ _ hp
    have x3 : w7.cell? ⟨w.heap.size, 3, none⟩ = some (.int .i64 n3) := cell_row w7 _ 3 _ _ hp
    have y0 : w7.cell? ⟨Bm, 0, none⟩ = some (.int .i64 m0) := cell_row w7 _ 0 _ _ hm
    have y1 : w7.cell? ⟨Bm, 1, none⟩ = some (.int .i64 m1) := cell_row w7 _ 1 _ _ hm
    have y2 : w7.cell? ⟨Bm, 2, none⟩ = some (.int .i64 m2) := cell_row w7 _ 2 _ _ hm
    have y3 : w7.cell? ⟨Bm, 3, none⟩ = some (.int .i64 m3) := cell_row w7 _ 3 _ _ hm
    clear hp hm
    rcases HH.out.2.2.2.2.2.2.2.1 with ⟨hE, hmp, hc⟩ | ⟨hE, hc⟩
    · have hmn : m0 = n0 ∧ m1 = n1 ∧ m2 = n2 ∧ m3 = n3 := by
        rw [HH.out.2.2.2.2.2.2.2.2.2.1, HH.out.2.2.2.2.2.2.2.2.2.2.1, HH.out.2.2.2.2.2.2.2.2.2.2.2.1, HH.out.2.2.2.2.2.2.2.2.2.2.2.2, ← hmp]
        exact ⟨rfl, rfl, rfl, rfl⟩
      obtain ⟨rfl, rfl, rfl, rfl⟩ := hmn
      clear hmp
      subst hE hc
      go_wp2_with fail
      go_ret
      exact ⟨_, rfl, rfl, hbV⟩
    · have hne : ((E : Int) != 0) = true := by rw [bne_iff_ne]; omega
      subst hc
      clear hE
      go_wp2_with fail
      go_ret
      exact ⟨_, rfl, rfl, hbV⟩
-- FRAME
set_option maxRecDepth 100000 in
theorem policyTexts_lifted (os : Os) (started : os.Started) (H : Type) (enc : TypeId × Value → H) :
    ReturnsInHanded {} Tryz.checked os 3 .any (fun w args => (Rows.policyTextsSpec.pre enc Tryz.prog Tryz.f3 [] false w args ∧ laidMetH Tryz.prog tabs7 w) ∧ sizedMet enc Tryz.prog Tryz.f3 (OpenSpec.ofChange Rows.policyTextsSpec) false w args) (Rows.policyTextsSpec.post enc Tryz.prog Tryz.f3 false true false false) := by
  refine handed_and_shaped (C := Tryz.checked) (X := fun w _ => laidMetH Tryz.prog tabs7 w) (fun _ _ _ hh h => h.of_heap hh) own started (by kernel_rfl) Tryz.func3
    (ChangeSpec.witness_shaped (enc := enc) (C := Tryz.checked) (os := os) (X := fun w _ => laidMetH Tryz.prog tabs7 w) false (World.laidAll Tryz.prog os tabs7) #[.agg #[.int .i64 0, .int .i64 0, .int .i64 0, .int .i64 0], .string ⟨#[]⟩] 8 (World.laidAll_os _ _ _) (door_shaped7 os) (by kernel_rfl) (by kernel_rfl) (by kernel_rfl) (door_met7 os _)) ?_
  intro W base args ds gs before hval0 hW hcnd hsz0 hL hsh _
  have hvars := vpol_of7 hL hsh
  have hval : ∀ (j : Nat) t v, Tryz.f3.params[j]? = some t → args[j]? = some v → Value.okWide Tryz.prog W .any base t v := hval0
  have hW' := hW
  obtain ⟨p, q, hA0, hV, rfl, hfz, hnd⟩ := hW
  have hA : DataW.TrodAll enc Tryz.prog W 0 (fun _ => true) true Tryz.f3.params.toList args.toList ds p := hA0
  have hsz : (DataW.weightsEach Tryz.prog (Tryz.f3.params.toList ++ Rows.policyTextsSpec.plain.varTypes Tryz.prog) (ds ++ gs)).all (· ≤ reachBytes) = true := hsz0
  rw [Tryz.params3] at hA hval hsz
  obtain ⟨v0, vs0, d0, ds0, p0, q0, hargs, rfl, rfl, h0, r0⟩ := trodAll_cons hA
  obtain ⟨v1, vs1, d1, ds1, p1, q1, rfl, rfl, rfl, h1, r1⟩ := trodAll_cons r0
  obtain ⟨rfl, rfl, rfl⟩ := trodAll_nil r1
  obtain rfl : args = #[v0, v1] := by cases args; simp_all
  obtain ⟨rfl, rfl⟩ := trodVars_none hV
  have k0 := h0
  have lt0 : ∀ x ∈ p0, x.block < W.heap.size := by obtain ⟨m, hm⟩ := k0; exact DataW.trod_lt m _ _ _ hm
  have hz0 : ∀ m ∈ d0.weights Tryz.prog 23, m ≤ reachBytes := fun m hm => by
    have h1 := List.all_eq_true.1 hsz m (DataW.weights_mem_each (j := 0) rfl rfl m hm)
    simpa using h1
  obtain ⟨q0, rfl, eA0⟩ := open_pol (hval 0 23 v0 rfl rfl) h0 hz0
  have k1 := h1
  have lt1 : ∀ x ∈ p1, x.block < W.heap.size := by obtain ⟨m, hm⟩ := k1; exact DataW.trod_lt m _ _ _ hm
  have hz1 : ∀ m ∈ d1.weights Tryz.prog 9, m ≤ reachBytes := fun m hm => by
    have h1 := List.all_eq_true.1 hsz m (DataW.weights_mem_each (j := 1) rfl rfl m hm)
    simpa using h1
  obtain ⟨l1, rfl, eA1⟩ := open_str (hval 1 9 v1 rfl rfl) h1 hz1
  clear hA0 hval0 hsz0
  refine (policyTexts_walk q0 l1 W eA0 (Nat.le_trans eA1 reach_le) hvars).mono fun e W' ⟨v, he, hv, bel⟩ => ?_
  subst he hv
  exact ⟨_, rfl, _, _, _, [], _, [], hW', trodAll_mk1 (shut_bool Tryz.underlying4 _), (trodAll_cons_mk (Below.trod laidOut (by kernel_rfl) (of_decide_eq_true (by kernel_rfl)) k0 bel lt0) (trodAll_cons_mk (Below.trod laidOut (by kernel_rfl) (of_decide_eq_true (by kernel_rfl)) k1 bel lt1) trodAll_mk0)), rfl, bel.frame _, fun h => by cases h⟩

theorem policyTexts_row : Rows.PolicyTextsSaid :=
  OpenClaim.holds_of_wide 3 Tryz.f3 rfl rfl rfl rfl rfl rfl rfl ⟨rfl, rfl, rfl, rfl, rfl⟩ rfl rfl rfl rfl rfl (by kernel_rfl) Tryz.func3 (by kernel_rfl)
    (of_decide_eq_true (by kernel_rfl)) (by unfold Func.isWrapper; first | (rw [if_pos (by decide +kernel)]; kernel_rfl) | (rw [if_neg (by decide +kernel)]; exact ⟨rfl, rfl⟩))
    (fun os started H enc _ => policyTexts_lifted os started H enc)

theorem policyTexts_holds : Rows.PolicyTextsCardSaid :=
  Claim7.holds_tied_plain_at .later [] [.data, .data, .data, .data, .sentinel, .sentinel, .pinned] true (true, "02b003ade427d62ed0908f33fa3ad860fd25ad3502c2ef17bff12e515b4c93bc") true
    policyTexts_row (fun _ h => by cases h) (by kernel_rfl) (fun _ h => by cases h) policyTexts_row_tie rfl ⟨rfl, rfl⟩ (by kernel_rfl) rfl
    (fun f fn hf hfn => by
      obtain rfl : f = 3 := Option.some.inj ((show Tryz.prog.funcNamed "hibernacle/hibernaclelaw49.PolicyTexts" = some 3 by kernel_rfl).symm.trans hf) |>.symm
      obtain rfl : fn = Tryz.f3 := (Option.some.inj (Tryz.func3.symm.trans hfn)).symm
      exact ⟨by kernel_rfl, fun j t ht => by
        rw [Tryz.params3] at ht
        rcases j with _ | _ | _ | _ | j
        all_goals first
          | (simp at ht; done)
          | (have h3 := Option.some.inj ht; subst h3; exact (show Tryz.prog.wantsStandIn _ = false by kernel_rfl))⟩)
    (by kernel_rfl)
#print axioms policyTexts_holds
end Go.Proofs.YtmncgnmgdkdhaaaGreatDoor
