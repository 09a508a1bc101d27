/- ShelfChecks holds: why a shelf may not be is what the document says; one that may not be answers that, and is as it was. No condition. -/
import Derived.Test.YtnapokalopcdkaaShL1
import Derived.Test.YtnapokalopcdkaaShW2
import Derived.Test.YtnapokalopcdkaaOpenSh
namespace Go.Proofs.Ytnapokalopcdkaa
open Go.ChangeShapes Go.WideShapes Go.ChangeAt Go.RowKit
set_option linter.unusedVariables false
set_option linter.unusedSimpArgs false

set_option maxRecDepth 100000 in
set_option maxHeartbeats 8000000 in
theorem shelfChecks_walk (A A' : Option Addr) (n c m c' : Nat) (l : List Pl.Obj) (F : List Int) (nm d : List UInt8) (w : World) (hl : l.length = n) (hF : F.length = m) (hr : SlAt w 4 A n c (objCs l)) (hr' : SlAt w 1 A' m c' (ints F)) (hn : n ≤ 140737488355328) (hm : m ≤ 140737488355328) :
    Calls Try.prog 5 #[.agg #[.slice A n c, .slice A' m c'], .string ⟨nm.toArray⟩, .string ⟨d.toArray⟩] w (RetB (fun v _ => v = .bool true) w) := by
  have hc0 := fun w h hn => check_any A A' n c m c' l w hl h hn
  have HK := Lib.hid hc0; clear hc0
  obtain ⟨G, hG⟩ : ∃ G, greatB l m = G := ⟨_, rfl⟩
  have hgr := fun w h => great_any A A' n c m c' l w hl h hn
  unfold greatI at hgr
  rw [hG] at hgr
  obtain ⟨E, hE⟩ : ∃ E, Pl.chk l = E := ⟨_, rfl⟩
  have hck := fun w h hn => rcheck_any A A' n c m c' l w hl h hn
  rw [hE] at hck
  obtain ⟨q, hq⟩ : ∃ q, Pl.okName nm = q := ⟨_, rfl⟩
  have hnm := fun w => rName_any nm w
  rw [hq] at hnm
  have HC := Lib.hid (And.intro hgr (And.intro hck hnm)); clear hgr hck hnm
  have HE := Lib.hid (And.intro hG (And.intro hE (And.intro hq (And.intro hl hF)))); clear hG hE hq hl hF
  go_enter Try.func5, Try.ntmps5
  go_wp2_with fail
  have hx := shb_new w hr hr'
  have hbw := (Below.refl w.heap.size w).alloc (Nat.le_refl _) (.cells #[.slice A n c, .slice A' m c'] 25)
  obtain ⟨V, hV⟩ : ∃ V, w.alloc (.cells #[.slice A n c, .slice A' m c'] 25) = V := ⟨_, rfl⟩
  rw [hV] at hx hbw ⊢
  clear hV hr hr'
  (with_reducible refine (HC.out.1 V hx.obj.rd).mono ?_)
  rintro e w1 ⟨v, rfl, rfl, hb1⟩
  replace hx := hx.below hb1
  replace hbw := hbw.trans (hb1.mono hbw.size)
  clear hb1
  cases G with
  | true =>
    go_wp2_with fail
    (with_reducible refine (awake_any _).mono ?_)
    rintro e wa9 ⟨v, rfl, rfl, hba9⟩
    go_wp2_with fail
    go_ret
    exact ⟨_, rfl, rfl, hbw.trans (hba9.mono hbw.size)⟩
  | false =>
  by_cases hnl : 200 < nm.length
  · skip
    go_wp2_with fail
    (with_reducible refine (awake_any _).mono ?_)
    rintro e wa9 ⟨v, rfl, rfl, hba9⟩
    go_wp2_with fail
    go_ret
    exact ⟨_, rfl, rfl, hbw.trans (hba9.mono hbw.size)⟩
  by_cases hdl : 500 < d.length
  · skip
    go_wp2_with fail
    (with_reducible refine (awake_any _).mono ?_)
    rintro e wa9 ⟨v, rfl, rfl, hba9⟩
    go_wp2_with fail
    go_ret
    exact ⟨_, rfl, rfl, hbw.trans (hba9.mono hbw.size)⟩
  obtain ⟨g1, g2, g3⟩ := great_of HE.out.1
  have hn30 : n ≤ 30 := by rw [← HE.out.2.2.2.1]; exact g1
  have HG := Lib.hid g3; clear g1 g3
  have hck0 := HK.out
  rw [HE.out.2.1] at hck0
  have HK0 := Lib.hid hck0; clear hck0 HK
  have x0 := hx.c0
  have x1 := hx.c1
  go_wp2_with fail
  (with_reducible refine (HK0.out w1 hx.obj.rd (by omega)).mono ?_)
  rintro e w2 ⟨v, rfl, rfl, hb2⟩
  replace hx := hx.below hb2
  replace hbw := hbw.trans (hb2.mono hbw.size)
  clear hb2 x0 x1
  have x0 := hx.c0
  have x1 := hx.c1
  go_wp2_with fail
  (with_reducible refine (HC.out.2.1 w2 hx.obj.rd (by omega)).mono ?_)
  rintro e w3 ⟨v, rfl, rfl, hb3⟩
  replace hx := hx.below hb3
  replace hbw := hbw.trans (hb3.mono hbw.size)
  clear hb3 x0 x1
  by_cases hE0 : E = 0
  · subst hE0
    go_wp2_with fail
    (with_reducible refine (awake_any _).mono ?_)
    rintro e wa9 ⟨v, rfl, rfl, hba9⟩
    go_wp2_with fail
    go_ret
    exact ⟨_, rfl, rfl, hbw.trans (hba9.mono hbw.size)⟩
  have e0 : ((E : Int) == 0) = false := beq_eq_false_iff_ne.2 (by omega)
  have hfit : Pl.Fit 1000 l F := Pl.Fit.mk (by rw [HE.out.2.2.2.1]; omega) (by rw [HE.out.2.2.2.2]; omega) (fun o ho => by have := (HG.out o ho).2.1; omega)
  have hask : Pl.askE l nm = E := by unfold Pl.askE; rw [HE.out.2.1, if_pos hE0]
  have e1 : Pl.putA l F nm d = (l, F, E) := by unfold Pl.putA; rw [hask, if_pos hE0]
  have e2 : Pl.getA l F nm = (F, [], E) := by unfold Pl.getA; rw [hask, if_pos hE0]
  have e3 : Pl.dropA l F nm = (l, F, E) := by unfold Pl.dropA; rw [hask, if_pos hE0]
  have e4 : Pl.namesA l F nm = (F, [], E) := by unfold Pl.namesA; rw [HE.out.2.1, if_pos hE0]
  have hput := fun A A' c c' w h h' => put_all A A' c c' l F nm d w n m HE.out.2.2.2.1 HE.out.2.2.2.2 h h' hfit (by omega)
  have hget := fun A A' c c' w h h' => get_all A A' c c' l F nm w n m HE.out.2.2.2.1 HE.out.2.2.2.2 h h' hfit
  have hdrp := fun A A' c c' w h h' => drop_all A A' c c' l F nm w n m HE.out.2.2.2.1 HE.out.2.2.2.2 h h' hfit
  have hnam := fun A A' c c' w h h' => names_all A A' c c' l F nm w n m HE.out.2.2.2.1 HE.out.2.2.2.2 h h' hfit
  rw [e1] at hput
  rw [e2] at hget
  rw [e3] at hdrp
  rw [e4] at hnam
  have hsam := fun A A1 A' A1' c c1 c' c1' w h1 h2 h3 h4 => same_yes A A' A1 A1' n c m c' c1 c1' l F w HE.out.2.2.2.1 HE.out.2.2.2.2 h1 h2 h3 h4 (by omega) (by omega)
  have HD := Lib.hid (And.intro hput (And.intro hget (And.intro hdrp (And.intro hnam hsam)))); clear hput hget hdrp hnam hsam e1 e2 e3 e4 hask hfit hE0
  have x0 := hx.c0
  have x1 := hx.c1
  go_wp2_with fail
  clear x0 x1
  (with_reducible refine (HD.out.1 _ _ _ _ _ hx.obj hx.fat).mono ?_)
  rintro e w4 ⟨v, rfl, ⟨A4, c4, D4, d4, rfl, ho4, hf4⟩, hb4⟩
  simp only [HE.out.2.2.2.1, HE.out.2.2.2.2] at ho4 hf4 ⊢
  have hc4 := hb4.alloc hb4.size (.cells #[.slice A4 n c4, .slice D4 m d4] 25)
  replace hx := hx.below hc4
  replace hbw := hbw.trans (hc4.mono hbw.size)
  have ha := shb_new w4 ho4 hf4
  have x0_4 := hx.c0
  have x1_4 := hx.c1
  go_wp2_with fail
  clear x0_4 x1_4
  obtain ⟨V4, hV4⟩ : ∃ V, w4.alloc (.cells #[.slice A4 n c4, .slice D4 m d4] 25) = V := ⟨_, rfl⟩
  rw [hV4] at hx hbw ha ⊢
  clear hV4
  (with_reducible refine (HD.out.2.1 _ _ _ _ _ hx.obj hx.fat).mono ?_)
  rintro e w5 ⟨v, rfl, ⟨A5, c5, D5, d5, rfl, ho5, hf5⟩, hb5⟩
  simp only [HE.out.2.2.2.1, HE.out.2.2.2.2] at ho5 hf5 ⊢
  have hc5 := hb5.alloc hb5.size (.cells #[.slice A5 n c5, .slice D5 m d5] 25)
  replace hx := hx.below hc5
  replace ha := ha.below hc5
  replace hbw := hbw.trans (hc5.mono hbw.size)
  have hb := shb_new w5 ho5 hf5
  have x0_5 := hx.c0
  have x1_5 := hx.c1
  go_wp2_with fail
  clear x0_5 x1_5
  obtain ⟨V5, hV5⟩ : ∃ V, w5.alloc (.cells #[.slice A5 n c5, .slice D5 m d5] 25) = V := ⟨_, rfl⟩
  rw [hV5] at hx ha hbw hb ⊢
  clear hV5
  (with_reducible refine (HD.out.2.2.1 _ _ _ _ _ hx.obj hx.fat).mono ?_)
  rintro e w6 ⟨v, rfl, ⟨A6, c6, D6, d6, rfl, ho6, hf6⟩, hb6⟩
  simp only [HE.out.2.2.2.1, HE.out.2.2.2.2] at ho6 hf6 ⊢
  have hc6 := hb6.alloc hb6.size (.cells #[.slice A6 n c6, .slice D6 m d6] 25)
  replace hx := hx.below hc6
  replace ha := ha.below hc6
  replace hb := hb.below hc6
  replace hbw := hbw.trans (hc6.mono hbw.size)
  have hc := shb_new w6 ho6 hf6
  have x0_6 := hx.c0
  have x1_6 := hx.c1
  go_wp2_with fail
  clear x0_6 x1_6
  obtain ⟨V6, hV6⟩ : ∃ V, w6.alloc (.cells #[.slice A6 n c6, .slice D6 m d6] 25) = V := ⟨_, rfl⟩
  rw [hV6] at hx ha hb hbw hc ⊢
  clear hV6
  (with_reducible refine (HD.out.2.2.2.1 _ _ _ _ _ hx.obj hx.fat).mono ?_)
  rintro e w7 ⟨v, rfl, ⟨A7, c7, D7, d7, An7, cn7, rfl, ho7, hf7, hs7⟩, hb7⟩
  simp only [HE.out.2.2.2.1, HE.out.2.2.2.2, List.length_nil] at ho7 hf7 hs7 ⊢
  have hc7 := hb7.alloc hb7.size (.cells #[.slice A7 n c7, .slice D7 m d7] 25)
  replace hx := hx.below hc7
  replace ha := ha.below hc7
  replace hb := hb.below hc7
  replace hc := hc.below hc7
  replace hbw := hbw.trans (hc7.mono hbw.size)
  have hd := shb_new w7 ho7 hf7
  have x0 := hx.c0
  have x1 := hx.c1
  have y0 := ha.c0
  have y1 := ha.c1
  go_wp2_with fail
  clear x0 x1 y0 y1
  obtain ⟨V7, hV7⟩ : ∃ V, w7.alloc (.cells #[.slice A7 n c7, .slice D7 m d7] 25) = V := ⟨_, rfl⟩
  rw [hV7] at hx ha hb hc hd hbw ⊢
  clear hV7
  (with_reducible refine (HD.out.2.2.2.2 _ _ _ _ _ _ _ _ _ ha.obj.rd ha.fat.rd hx.obj.rd hx.fat.rd).mono ?_)
  rintro e w8 ⟨v, rfl, rfl, hb8⟩
  replace hx := hx.below hb8
  replace ha := ha.below hb8
  replace hb := hb.below hb8
  replace hc := hc.below hb8
  replace hd := hd.below hb8
  replace hbw := hbw.trans (hb8.mono hbw.size)
  have x0 := hx.c0
  have x1 := hx.c1
  have y0 := hb.c0
  have y1 := hb.c1
  go_wp2_with fail
  clear x0 x1 y0 y1
  (with_reducible refine (HD.out.2.2.2.2 _ _ _ _ _ _ _ _ _ hb.obj.rd hb.fat.rd hx.obj.rd hx.fat.rd).mono ?_)
  rintro e w9 ⟨v, rfl, rfl, hb9⟩
  replace hx := hx.below hb9
  replace ha := ha.below hb9
  replace hb := hb.below hb9
  replace hc := hc.below hb9
  replace hd := hd.below hb9
  replace hbw := hbw.trans (hb9.mono hbw.size)
  have x0 := hx.c0
  have x1 := hx.c1
  have y0 := hc.c0
  have y1 := hc.c1
  go_wp2_with fail
  clear x0 x1 y0 y1
  (with_reducible refine (HD.out.2.2.2.2 _ _ _ _ _ _ _ _ _ hc.obj.rd hc.fat.rd hx.obj.rd hx.fat.rd).mono ?_)
  rintro e w10 ⟨v, rfl, rfl, hb10⟩
  replace hx := hx.below hb10
  replace ha := ha.below hb10
  replace hb := hb.below hb10
  replace hc := hc.below hb10
  replace hd := hd.below hb10
  replace hbw := hbw.trans (hb10.mono hbw.size)
  have x0 := hx.c0
  have x1 := hx.c1
  have y0 := hd.c0
  have y1 := hd.c1
  go_wp2_with fail
  clear x0 x1 y0 y1
  (with_reducible refine (HD.out.2.2.2.2 _ _ _ _ _ _ _ _ _ hd.obj.rd hd.fat.rd hx.obj.rd hx.fat.rd).mono ?_)
  rintro e w11 ⟨v, rfl, rfl, hb11⟩
  replace hx := hx.below hb11
  replace ha := ha.below hb11
  replace hb := hb.below hb11
  replace hc := hc.below hb11
  replace hd := hd.below hb11
  replace hbw := hbw.trans (hb11.mono hbw.size)
  go_wp2_with fail
  (with_reducible refine (awake_any _).mono ?_)
  rintro e wa9 ⟨v, rfl, rfl, hba9⟩
  go_wp2_with fail
  go_ret
  exact ⟨_, rfl, rfl, hbw.trans (hba9.mono hbw.size)⟩
-- FRAME
set_option maxRecDepth 100000 in
theorem shelfChecks_lifted (os : Os) (started : os.Started) (H : Type) (enc : TypeId × Value → H) :
    ReturnsInHanded {} Try.checked os 5 .any (Rows.shelfChecksSpec.pre6 enc Try.prog Try.f5 Rows.shelfChecksRow.domain false) (Rows.shelfChecksSpec.post enc Try.prog Try.f5 false true false false) := by
  refine returnsInHanded_of_change_sized (C := Try.checked) own started (by kernel_rfl) Try.func5
    (ChangeSpec.witness6 (enc := enc) (C := Try.checked) false ⟨#[], #[.agg #[.slice none 0 0, .slice none 0 0], .string ⟨#[]⟩, .string ⟨#[]⟩], []⟩ 8 (by kernel_rfl) (by kernel_rfl) (by kernel_rfl) (by kernel_rfl)) ?_
  intro W base args ds gs before hval0 hW hcnd hsz0 _
  have hval : ∀ (j : Nat) t v, Try.f5.params[j]? = some t → args[j]? = some v → Value.okWide Try.prog W .any base t v := hval0
  have hW' := hW
  obtain ⟨p, q, hA0, hV, rfl, hfz, hnd⟩ := hW
  have hA : DataW.TrodAll enc Try.prog W 0 (fun _ => true) true Try.f5.params.toList args.toList ds p := hA0
  have hsz : (DataW.weightsEach Try.prog (Try.f5.params.toList ++ Rows.shelfChecksSpec.plain.varTypes Try.prog) (ds ++ gs)).all (· ≤ reachBytes) = true := hsz0
  rw [Try.params5] at hA hval hsz
  obtain ⟨v0, vs0, d0, ds0, p0, q0, hargs, rfl, rfl, h0, r0⟩ := trodAll_cons hA
  obtain ⟨v1, vs1, d1, ds1, p1, q1, rfl, rfl, rfl, h1, r1⟩ := trodAll_cons r0
  obtain ⟨v2, vs2, d2, ds2, p2, q2, rfl, rfl, rfl, h2, r2⟩ := trodAll_cons r1
  obtain ⟨rfl, rfl, rfl⟩ := trodAll_nil r2
  obtain rfl : args = #[v0, v1, v2] := by cases args; simp_all
  obtain ⟨rfl, rfl⟩ := trodVars_none hV
  have k0 := h0
  have lt0 : ∀ x ∈ p0, x.block < W.heap.size := by obtain ⟨m, hm⟩ := k0; exact DataW.trod_lt m _ _ _ hm
  have hz0 : ∀ m ∈ d0.weights Try.prog 25, m ≤ reachBytes := fun m hm => by
    have h1 := List.all_eq_true.1 hsz m (DataW.weights_mem_each (j := 0) rfl rfl m hm)
    simpa using h1
  obtain ⟨A0, B0, n0, c0, m0, cc0, l0, F0, rfl, eA0, eB0, eC0, eD0, eE0, eF0⟩ := open_shelf (hval 0 25 v0 rfl rfl) h0 hz0
  have k1 := h1
  have lt1 : ∀ x ∈ p1, x.block < W.heap.size := by obtain ⟨m, hm⟩ := k1; exact DataW.trod_lt m _ _ _ hm
  have hz1 : ∀ m ∈ d1.weights Try.prog 9, m ≤ reachBytes := fun m hm => by
    have h1 := List.all_eq_true.1 hsz m (DataW.weights_mem_each (j := 1) rfl rfl m hm)
    simpa using h1
  obtain ⟨l1, rfl, eA1⟩ := open_str (hval 1 9 v1 rfl rfl) h1 hz1
  have k2 := h2
  have lt2 : ∀ x ∈ p2, x.block < W.heap.size := by obtain ⟨m, hm⟩ := k2; exact DataW.trod_lt m _ _ _ hm
  have hz2 : ∀ m ∈ d2.weights Try.prog 9, m ≤ reachBytes := fun m hm => by
    have h1 := List.all_eq_true.1 hsz m (DataW.weights_mem_each (j := 2) rfl rfl m hm)
    simpa using h1
  obtain ⟨l2, rfl, eA2⟩ := open_str (hval 2 9 v2 rfl rfl) h2 hz2
  clear hA0 hval0 hsz0
  refine (shelfChecks_walk A0 B0 n0 c0 m0 cc0 l0 F0 l1 l2 W eA0 eB0 eC0 eD0 eE0 eF0  ).mono fun e W' ⟨v, he, hv, bel⟩ => ?_
  subst he hv
  exact ⟨_, rfl, _, _, _, [], _, [], hW', trodAll_mk1 (shut_bool Try.underlying4 _), (trodAll_cons_mk (Below.trod laidOut (by kernel_rfl) (of_decide_eq_true (by kernel_rfl)) k0 bel lt0) (trodAll_cons_mk (Below.trod laidOut (by kernel_rfl) (of_decide_eq_true (by kernel_rfl)) k1 bel lt1) (trodAll_cons_mk (Below.trod laidOut (by kernel_rfl) (of_decide_eq_true (by kernel_rfl)) k2 bel lt2) trodAll_mk0))), rfl, bel.frame _, fun h => by cases h⟩

theorem shelfChecks_holds : Rows.ShelfChecksSaid :=
  OpenClaim.holds_of_wide 5 Try.f5 rfl rfl rfl rfl rfl rfl rfl ⟨rfl, rfl, rfl, rfl, rfl⟩ rfl rfl rfl rfl rfl (by kernel_rfl) Try.func5 (by kernel_rfl)
    (of_decide_eq_true (by kernel_rfl)) (by unfold Func.isWrapper; first | (rw [if_pos (by decide +kernel)]; kernel_rfl) | (rw [if_neg (by decide +kernel)]; exact ⟨rfl, rfl⟩))
    (fun os started H enc _ => shelfChecks_lifted os started H enc)
#print axioms shelfChecks_holds
end Go.Proofs.Ytnapokalopcdkaa
