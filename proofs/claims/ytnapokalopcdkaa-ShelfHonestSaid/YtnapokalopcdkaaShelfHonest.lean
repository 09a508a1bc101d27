/- ShelfHonest holds: a shelf without lies tells what was put last, and nothing of it once it was thrown away; what has another name is as it was. No condition. -/
import Derived.Test.YtnapokalopcdkaaShL2
import Derived.Test.YtnapokalopcdkaaShW2
import Derived.Test.YtnapokalopcdkaaOpenSh
namespace Go.Proofs.Ytnapokalopcdkaa
open Go.ChangeShapes Go.WideShapes Go.ChangeAt Go.RowKit
set_option linter.unusedVariables false
set_option linter.unusedSimpArgs false

theorem Pl.getR_same {l l' : List Pl.Obj} {x : List UInt8} (f : Int) (h : Pl.findO l x = Pl.findO l' x) : Pl.getR l f x = Pl.getR l' f x := by unfold Pl.getR; rw [h]
theorem Pl.getA_nil {l : List Pl.Obj} {x : List UInt8} (h : Pl.chk l = 0) (hn : Pl.okName x = true) : Pl.getA l [] x = ([], (Pl.getR l 0 x).1, (Pl.getR l 0 x).2) := by
  unfold Pl.getA; rw [if_neg (by rw [Pl.askE_of h hn]; simp)]; rfl
set_option maxRecDepth 100000 in
set_option maxHeartbeats 8000000 in
theorem shelfHonest_walk (A A' : Option Addr) (n c m c' : Nat) (l : List Pl.Obj) (F : List Int) (nm d ot : List UInt8) (w : World) (hl : l.length = n) (hF : F.length = m) (hr : SlAt w 4 A n c (objCs l)) (hr' : SlAt w 1 A' m c' (ints F)) (hn : n ≤ 140737488355328) (hm : m ≤ 140737488355328) :
    Calls Try.prog 4 #[.agg #[.slice A n c, .slice A' m c'], .string ⟨nm.toArray⟩, .string ⟨d.toArray⟩, .string ⟨ot.toArray⟩] w (RetB (fun v _ => v = .bool true) w) := by
  obtain ⟨q2, hq2⟩ : ∃ q, Pl.okName ot = q := ⟨_, rfl⟩
  have hnm2 := fun w => rName_any ot w
  rw [hq2] at hnm2
  have HO := Lib.hid (And.intro hnm2 hq2); clear hnm2 hq2
  obtain ⟨G, hG⟩ : ∃ G, greatB l m = G := ⟨_, rfl⟩
  have hgr := fun w h => great_any A A' n c m c' l w hl h hn
  unfold greatI at hgr
  rw [hG] at hgr
  obtain ⟨E, hE⟩ : ∃ E, Pl.chk l = E := ⟨_, rfl⟩
  have hck := fun w h hn => rcheck_any A A' n c m c' l w hl h hn
  rw [hE] at hck
  obtain ⟨q, hq⟩ : ∃ q, Pl.okName nm = q := ⟨_, rfl⟩
  have hnm := fun w => rName_any nm w
  rw [hq] at hnm
  have HC := Lib.hid (And.intro hgr (And.intro hck hnm)); clear hgr hck hnm
  have HE := Lib.hid (And.intro hG (And.intro hE (And.intro hq (And.intro hl hF)))); clear hG hE hq hl hF
  go_enter Try.func4, Try.ntmps4
  go_wp2_with fail
  have hx := shb_new w hr hr'
  have hbw := (Below.refl w.heap.size w).alloc (Nat.le_refl _) (.cells #[.slice A n c, .slice A' m c'] 25)
  obtain ⟨V, hV⟩ : ∃ V, w.alloc (.cells #[.slice A n c, .slice A' m c'] 25) = V := ⟨_, rfl⟩
  rw [hV] at hx hbw ⊢
  clear hV hr hr'
  (with_reducible refine (HC.out.1 V hx.obj.rd).mono ?_)
  rintro e w1 ⟨v, rfl, rfl, hb1⟩
  replace hx := hx.below hb1
  replace hbw := hbw.trans (hb1.mono hbw.size)
  clear hb1
  cases G with
  | true =>
    go_wp2_with fail
    (with_reducible refine (awake_any _).mono ?_)
    rintro e wa9 ⟨v, rfl, rfl, hba9⟩
    go_wp2_with fail
    go_ret
    exact ⟨_, rfl, rfl, hbw.trans (hba9.mono hbw.size)⟩
  | false =>
  by_cases hdl : 500 < d.length
  · skip
    go_wp2_with fail
    (with_reducible refine (awake_any _).mono ?_)
    rintro e wa9 ⟨v, rfl, rfl, hba9⟩
    go_wp2_with fail
    go_ret
    exact ⟨_, rfl, rfl, hbw.trans (hba9.mono hbw.size)⟩
  obtain ⟨g1, g2, g3⟩ := great_of HE.out.1
  have hn30 : n ≤ 30 := by rw [← HE.out.2.2.2.1]; exact g1
  have HG := Lib.hid g3; clear g1 g3
  have x0 := hx.c0
  have x1 := hx.c1
  go_wp2_with fail
  (with_reducible refine (HC.out.2.1 w1 hx.obj.rd (by omega)).mono ?_)
  rintro e w2 ⟨v, rfl, rfl, hb2⟩
  replace hx := hx.below hb2
  replace hbw := hbw.trans (hb2.mono hbw.size)
  clear hb2 x0 x1
  by_cases hE0 : E = 0
  rotate_left
  · have hne : ((E : Int) != 0) = true := by simp; omega
    go_wp2_with fail
    (with_reducible refine (awake_any _).mono ?_)
    rintro e wa9 ⟨v, rfl, rfl, hba9⟩
    go_wp2_with fail
    go_ret
    exact ⟨_, rfl, rfl, hbw.trans (hba9.mono hbw.size)⟩
  subst hE0
  go_wp2_with fail
  (with_reducible refine (HC.out.2.2 _).mono ?_)
  rintro e w3 ⟨rfl, rfl⟩
  cases q with
  | false =>
    go_wp2_with fail
    (with_reducible refine (awake_any _).mono ?_)
    rintro e wa9 ⟨v, rfl, rfl, hba9⟩
    go_wp2_with fail
    go_ret
    exact ⟨_, rfl, rfl, hbw.trans (hba9.mono hbw.size)⟩
  | true =>
  go_wp2_with fail
  (with_reducible refine (HO.out.1 _).mono ?_)
  rintro e w3 ⟨rfl, rfl⟩
  cases q2 with
  | false =>
    go_wp2_with fail
    (with_reducible refine (awake_any _).mono ?_)
    rintro e wa9 ⟨v, rfl, rfl, hba9⟩
    go_wp2_with fail
    go_ret
    exact ⟨_, rfl, rfl, hbw.trans (hba9.mono hbw.size)⟩
  | true =>
  obtain ⟨q3, hq3⟩ : ∃ q, (nm == ot) = q := ⟨_, rfl⟩
  cases q3 with
  | true =>
    go_wp2_with fail
    (with_reducible refine (awake_any _).mono ?_)
    rintro e wa9 ⟨v, rfl, rfl, hba9⟩
    go_wp2_with fail
    go_ret
    exact ⟨_, rfl, rfl, hbw.trans (hba9.mono hbw.size)⟩
  | false =>
  have hne : ot ≠ nm := fun h => by rw [h] at hq3; simp at hq3
  have HNE := Lib.hid hne; clear hne
  have x0 := hx.c0
  have x1 := hx.c1
  have xf := hx.fz
  go_wp2_with fail
  (with_reducible refine (honest_any _ _ _ _ _ _ _).mono ?_)
  rintro e w3 ⟨v, rfl, ⟨A3, c3, rfl, hs3⟩, hb3⟩
  replace hx := hx.below hb3
  clear x0 x1 xf
  have x0 := hx.c0
  have x1 := hx.c1
  have xf := hx.fz
  replace hx := hx.store hx.obj hs3
  replace hbw := ((hbw.trans (hb3.mono hbw.size)).setCell (p := ⟨w.heap.size, 0, none⟩) (Nat.le_refl _) (.slice A n c)).setCell (p := ⟨w.heap.size, 1, none⟩) (Nat.le_refl _) (.slice A3 0 c3)
  go_wp2_with fail
  obtain ⟨V3, hV3⟩ : ∃ V, (w3.setCell ⟨w.heap.size, 0, none⟩ (.slice A n c)).setCell ⟨w.heap.size, 1, none⟩ (.slice A3 0 c3) = V := ⟨_, rfl⟩
  rw [hV3] at hx hbw ⊢
  clear hV3 x0 x1 xf hb3 hs3
  obtain ⟨P, hP⟩ : ∃ P, Pl.putL l nm d = P := ⟨_, rfl⟩
  obtain ⟨Q, hQ⟩ : ∃ Q, Pl.dropL P nm = Q := ⟨_, rfl⟩
  have hrl := ((Pl.chk_iff l).1 HE.out.2.1).1
  have hck := Pl.chk_put HE.out.2.1 (nm := nm) (d := d) HE.out.2.2.1 (by omega)
  have hfn := Pl.find_put_same hrl nm d
  have hfo := Pl.find_put_other hrl nm d HNE.out
  have hpl := Pl.put_len1 (l := l) nm d
  have hpd := Pl.put_data (l := l) (nm := nm) (d := d) (k := 1000) (fun o ho => by have := (HG.out o ho).2.1; omega) (by omega)
  rw [hP] at hck hfn hfo hpl hpd
  rw [HE.out.2.2.2.1] at hpl
  have hrp := ((Pl.chk_iff P).1 hck).1
  have hck2 := Pl.chk_drop hck nm
  have hgn := Pl.find_drop_same P nm
  have hgo := Pl.find_drop_other hrp nm HNE.out
  have hql := Pl.drop_len P nm
  have hqd := Pl.drop_data (nm := nm) hpd
  rw [hQ] at hck2 hgn hgo hql hqd
  obtain ⟨⟨go, ge⟩, hgg⟩ : ∃ g, Pl.getR l 0 ot = g := ⟨_, rfl⟩
  have e0 : Pl.getA l [] ot = ([], go, ge) := by rw [Pl.getA_nil HE.out.2.1 HO.out.2, hgg]
  have e1 : Pl.putA l [] nm d = (P, [], 0) := by
    unfold Pl.putA
    rw [if_neg (by rw [Pl.askE_of HE.out.2.1 HE.out.2.2.1]; simp), if_neg (by omega), ← hP]; rfl
  have e2 : Pl.getA P [] nm = ([], d, 0) := by
    rw [Pl.getA_nil hck HE.out.2.2.1]
    unfold Pl.getR
    rw [if_neg (by decide), hfn]; rfl
  have e3 : Pl.getA P [] ot = ([], go, ge) := by rw [Pl.getA_nil hck HO.out.2, Pl.getR_same 0 hfo, hgg]
  have e4 : Pl.dropA P [] nm = (Q, [], 0) := by
    unfold Pl.dropA
    rw [if_neg (by rw [Pl.askE_of hck HE.out.2.2.1]; simp)]
    unfold Pl.dropR
    rw [if_neg (by decide), if_neg (by decide), hfn, ← hQ]; rfl
  have e5 : Pl.getA Q [] nm = ([], [], 9) := by
    rw [Pl.getA_nil hck2 HE.out.2.2.1]
    unfold Pl.getR
    rw [if_neg (by decide), hgn]
  have e6 : Pl.getA Q [] ot = ([], go, ge) := by rw [Pl.getA_nil hck2 HO.out.2, Pl.getR_same 0 (hgo.trans hfo), hgg]
  obtain ⟨k, hk⟩ : ∃ k, P.length = k := ⟨_, rfl⟩
  obtain ⟨k2, hk2⟩ : ∃ k, Q.length = k := ⟨_, rfl⟩
  have fl : Pl.Fit 1000 l [] := Pl.Fit.mk (by rw [HE.out.2.2.2.1]; omega) (by simp) (fun o ho => by have := (HG.out o ho).2.1; omega)
  have fp : Pl.Fit 1000 P [] := Pl.Fit.mk (by omega) (by simp) (fun o ho => by have := hpd o ho; omega)
  have fq : Pl.Fit 1000 Q [] := Pl.Fit.mk (by omega) (by simp) (fun o ho => by have := hqd o ho; omega)
  have h0 := fun A A' c c' w h h' => get_all A A' c c' l [] ot w n 0 HE.out.2.2.2.1 rfl h h' fl
  have h1 := fun A A' c c' w h h' => put_all A A' c c' l [] nm d w n 0 HE.out.2.2.2.1 rfl h h' fl (by omega)
  have h2 := fun A A' c c' w h h' => get_all A A' c c' P [] nm w k 0 hk rfl h h' fp
  have h3 := fun A A' c c' w h h' => get_all A A' c c' P [] ot w k 0 hk rfl h h' fp
  have h4 := fun A A' c c' w h h' => drop_all A A' c c' P [] nm w k 0 hk rfl h h' fp
  have h5 := fun A A' c c' w h h' => get_all A A' c c' Q [] nm w k2 0 hk2 rfl h h' fq
  have h6 := fun A A' c c' w h h' => get_all A A' c c' Q [] ot w k2 0 hk2 rfl h h' fq
  rw [e0] at h0
  rw [e1] at h1
  rw [e2] at h2
  rw [e3] at h3
  rw [e4] at h4
  rw [e5] at h5
  rw [e6] at h6
  have H0 := Lib.hid h0
  have H1 := Lib.hid h1
  have H2 := Lib.hid h2
  have H3 := Lib.hid h3
  have H4 := Lib.hid h4
  have H5 := Lib.hid h5
  have H6 := Lib.hid h6
  have HK := Lib.hid (And.intro hk hk2)
  clear h0 h1 h2 h3 h4 h5 h6 e0 e1 e2 e3 e4 e5 e6 hk hk2 fl fp fq hP hQ hrl hck hfn hfo hpl hpd hrp hck2 hgn hgo hql hqd hgg
  (with_reducible refine (H0.out _ _ _ _ _ hx.obj hx.fat).mono ?_)
  rintro e w4 ⟨v, rfl, ⟨A4, c4, D4, d4, rfl, ho4, hf4⟩, hb4⟩
  simp only [HE.out.2.2.2.1, HK.out.1, HK.out.2, List.length_nil] at ho4 hf4 ⊢
  have hc4 := hb4.alloc hb4.size (.cells #[.slice A4 n c4, .slice D4 0 d4] 25)
  replace hx := hx.below hc4
  replace hbw := hbw.trans (hc4.mono hbw.size)
  have x0_4 := hx.c0
  have x1_4 := hx.c1
  go_wp2_with fail
  clear x0_4 x1_4
  obtain ⟨V4, hV4⟩ : ∃ V, w4.alloc (.cells #[.slice A4 n c4, .slice D4 0 d4] 25) = V := ⟨_, rfl⟩
  rw [hV4] at hx hbw ⊢
  clear hV4
  (with_reducible refine (H1.out _ _ _ _ _ hx.obj hx.fat).mono ?_)
  rintro e w5 ⟨v, rfl, ⟨A5, c5, D5, d5, rfl, ho5, hf5⟩, hb5⟩
  simp only [HE.out.2.2.2.1, HK.out.1, HK.out.2, List.length_nil] at ho5 hf5 ⊢
  have hc5 := hb5.alloc hb5.size (.cells #[.slice A5 k c5, .slice D5 0 d5] 25)
  replace hx := hx.below hc5
  replace hbw := hbw.trans (hc5.mono hbw.size)
  have hp := shb_new w5 ho5 hf5
  go_wp2_with fail
  obtain ⟨V5, hV5⟩ : ∃ V, w5.alloc (.cells #[.slice A5 k c5, .slice D5 0 d5] 25) = V := ⟨_, rfl⟩
  rw [hV5] at hx hbw hp ⊢
  clear hV5
  (with_reducible refine (H2.out _ _ _ _ _ hp.obj hp.fat).mono ?_)
  rintro e w6 ⟨v, rfl, ⟨A6, c6, D6, d6, rfl, ho6, hf6⟩, hb6⟩
  simp only [HE.out.2.2.2.1, HK.out.1, HK.out.2, List.length_nil] at ho6 hf6 ⊢
  have hc6 := hb6.alloc hb6.size (.cells #[.slice A6 k c6, .slice D6 0 d6] 25)
  replace hp := hp.below hc6
  replace hbw := hbw.trans (hc6.mono hbw.size)
  have x0_6 := hp.c0
  have x1_6 := hp.c1
  go_wp2_with fail
  clear x0_6 x1_6
  obtain ⟨V6, hV6⟩ : ∃ V, w6.alloc (.cells #[.slice A6 k c6, .slice D6 0 d6] 25) = V := ⟨_, rfl⟩
  rw [hV6] at hp hbw ⊢
  clear hV6
  (with_reducible refine (H3.out _ _ _ _ _ hp.obj hp.fat).mono ?_)
  rintro e w7 ⟨v, rfl, ⟨A7, c7, D7, d7, rfl, ho7, hf7⟩, hb7⟩
  simp only [HE.out.2.2.2.1, HK.out.1, HK.out.2, List.length_nil] at ho7 hf7 ⊢
  have hc7 := hb7.alloc hb7.size (.cells #[.slice A7 k c7, .slice D7 0 d7] 25)
  replace hp := hp.below hc7
  replace hbw := hbw.trans (hc7.mono hbw.size)
  have x0_7 := hp.c0
  have x1_7 := hp.c1
  go_wp2_with fail
  clear x0_7 x1_7
  obtain ⟨V7, hV7⟩ : ∃ V, w7.alloc (.cells #[.slice A7 k c7, .slice D7 0 d7] 25) = V := ⟨_, rfl⟩
  rw [hV7] at hp hbw ⊢
  clear hV7
  (with_reducible refine (H4.out _ _ _ _ _ hp.obj hp.fat).mono ?_)
  rintro e w8 ⟨v, rfl, ⟨A8, c8, D8, d8, rfl, ho8, hf8⟩, hb8⟩
  simp only [HE.out.2.2.2.1, HK.out.1, HK.out.2, List.length_nil] at ho8 hf8 ⊢
  have hc8 := hb8.alloc hb8.size (.cells #[.slice A8 k2 c8, .slice D8 0 d8] 25)
  replace hbw := hbw.trans (hc8.mono hbw.size)
  have hy := shb_new w8 ho8 hf8
  go_wp2_with fail
  obtain ⟨V8, hV8⟩ : ∃ V, w8.alloc (.cells #[.slice A8 k2 c8, .slice D8 0 d8] 25) = V := ⟨_, rfl⟩
  rw [hV8] at hbw hy ⊢
  clear hV8
  (with_reducible refine (H5.out _ _ _ _ _ hy.obj hy.fat).mono ?_)
  rintro e w9 ⟨v, rfl, ⟨A9, c9, D9, d9, rfl, ho9, hf9⟩, hb9⟩
  simp only [HE.out.2.2.2.1, HK.out.1, HK.out.2, List.length_nil] at ho9 hf9 ⊢
  have hc9 := hb9.alloc hb9.size (.cells #[.slice A9 k2 c9, .slice D9 0 d9] 25)
  replace hy := hy.below hc9
  replace hbw := hbw.trans (hc9.mono hbw.size)
  have x0_9 := hy.c0
  have x1_9 := hy.c1
  go_wp2_with fail
  clear x0_9 x1_9
  obtain ⟨V9, hV9⟩ : ∃ V, w9.alloc (.cells #[.slice A9 k2 c9, .slice D9 0 d9] 25) = V := ⟨_, rfl⟩
  rw [hV9] at hy hbw ⊢
  clear hV9
  (with_reducible refine (H6.out _ _ _ _ _ hy.obj hy.fat).mono ?_)
  rintro e w10 ⟨v, rfl, ⟨A10, c10, D10, d10, rfl, ho10, hf10⟩, hb10⟩
  simp only [HE.out.2.2.2.1, HK.out.1, HK.out.2, List.length_nil] at ho10 hf10 ⊢
  have hc10 := hb10.alloc hb10.size (.cells #[.slice A10 k2 c10, .slice D10 0 d10] 25)
  replace hbw := hbw.trans (hc10.mono hbw.size)
  go_wp2_with fail
  obtain ⟨V10, hV10⟩ : ∃ V, w10.alloc (.cells #[.slice A10 k2 c10, .slice D10 0 d10] 25) = V := ⟨_, rfl⟩
  rw [hV10] at hbw ⊢
  clear hV10
  (with_reducible refine (awake_any _).mono ?_)
  rintro e wa11 ⟨v, rfl, rfl, hba11⟩
  go_wp2_with fail
  go_ret
  exact ⟨_, rfl, rfl, hbw.trans (hba11.mono hbw.size)⟩
-- FRAME
set_option maxRecDepth 100000 in
theorem shelfHonest_lifted (os : Os) (started : os.Started) (H : Type) (enc : TypeId × Value → H) :
    ReturnsInHanded {} Try.checked os 4 .any (Rows.shelfHonestSpec.pre6 enc Try.prog Try.f4 Rows.shelfHonestRow.domain false) (Rows.shelfHonestSpec.post enc Try.prog Try.f4 false true false false) := by
  refine returnsInHanded_of_change_sized (C := Try.checked) own started (by kernel_rfl) Try.func4
    (ChangeSpec.witness6 (enc := enc) (C := Try.checked) false ⟨#[], #[.agg #[.slice none 0 0, .slice none 0 0], .string ⟨#[]⟩, .string ⟨#[]⟩, .string ⟨#[]⟩], []⟩ 8 (by kernel_rfl) (by kernel_rfl) (by kernel_rfl) (by kernel_rfl)) ?_
  intro W base args ds gs before hval0 hW hcnd hsz0 _
  have hval : ∀ (j : Nat) t v, Try.f4.params[j]? = some t → args[j]? = some v → Value.okWide Try.prog W .any base t v := hval0
  have hW' := hW
  obtain ⟨p, q, hA0, hV, rfl, hfz, hnd⟩ := hW
  have hA : DataW.TrodAll enc Try.prog W 0 (fun _ => true) true Try.f4.params.toList args.toList ds p := hA0
  have hsz : (DataW.weightsEach Try.prog (Try.f4.params.toList ++ Rows.shelfHonestSpec.plain.varTypes Try.prog) (ds ++ gs)).all (· ≤ reachBytes) = true := hsz0
  rw [Try.params4] at hA hval hsz
  obtain ⟨v0, vs0, d0, ds0, p0, q0, hargs, rfl, rfl, h0, r0⟩ := trodAll_cons hA
  obtain ⟨v1, vs1, d1, ds1, p1, q1, rfl, rfl, rfl, h1, r1⟩ := trodAll_cons r0
  obtain ⟨v2, vs2, d2, ds2, p2, q2, rfl, rfl, rfl, h2, r2⟩ := trodAll_cons r1
  obtain ⟨v3, vs3, d3, ds3, p3, q3, rfl, rfl, rfl, h3, r3⟩ := trodAll_cons r2
  obtain ⟨rfl, rfl, rfl⟩ := trodAll_nil r3
  obtain rfl : args = #[v0, v1, v2, v3] := by cases args; simp_all
  obtain ⟨rfl, rfl⟩ := trodVars_none hV
  have k0 := h0
  have lt0 : ∀ x ∈ p0, x.block < W.heap.size := by obtain ⟨m, hm⟩ := k0; exact DataW.trod_lt m _ _ _ hm
  have hz0 : ∀ m ∈ d0.weights Try.prog 25, m ≤ reachBytes := fun m hm => by
    have h1 := List.all_eq_true.1 hsz m (DataW.weights_mem_each (j := 0) rfl rfl m hm)
    simpa using h1
  obtain ⟨A0, B0, n0, c0, m0, cc0, l0, F0, rfl, eA0, eB0, eC0, eD0, eE0, eF0⟩ := open_shelf (hval 0 25 v0 rfl rfl) h0 hz0
  have k1 := h1
  have lt1 : ∀ x ∈ p1, x.block < W.heap.size := by obtain ⟨m, hm⟩ := k1; exact DataW.trod_lt m _ _ _ hm
  have hz1 : ∀ m ∈ d1.weights Try.prog 9, m ≤ reachBytes := fun m hm => by
    have h1 := List.all_eq_true.1 hsz m (DataW.weights_mem_each (j := 1) rfl rfl m hm)
    simpa using h1
  obtain ⟨l1, rfl, eA1⟩ := open_str (hval 1 9 v1 rfl rfl) h1 hz1
  have k2 := h2
  have lt2 : ∀ x ∈ p2, x.block < W.heap.size := by obtain ⟨m, hm⟩ := k2; exact DataW.trod_lt m _ _ _ hm
  have hz2 : ∀ m ∈ d2.weights Try.prog 9, m ≤ reachBytes := fun m hm => by
    have h1 := List.all_eq_true.1 hsz m (DataW.weights_mem_each (j := 2) rfl rfl m hm)
    simpa using h1
  obtain ⟨l2, rfl, eA2⟩ := open_str (hval 2 9 v2 rfl rfl) h2 hz2
  have k3 := h3
  have lt3 : ∀ x ∈ p3, x.block < W.heap.size := by obtain ⟨m, hm⟩ := k3; exact DataW.trod_lt m _ _ _ hm
  have hz3 : ∀ m ∈ d3.weights Try.prog 9, m ≤ reachBytes := fun m hm => by
    have h1 := List.all_eq_true.1 hsz m (DataW.weights_mem_each (j := 3) rfl rfl m hm)
    simpa using h1
  obtain ⟨l3, rfl, eA3⟩ := open_str (hval 3 9 v3 rfl rfl) h3 hz3
  clear hA0 hval0 hsz0
  refine (shelfHonest_walk A0 B0 n0 c0 m0 cc0 l0 F0 l1 l2 l3 W eA0 eB0 eC0 eD0 eE0 eF0   ).mono fun e W' ⟨v, he, hv, bel⟩ => ?_
  subst he hv
  exact ⟨_, rfl, _, _, _, [], _, [], hW', trodAll_mk1 (shut_bool Try.underlying4 _), (trodAll_cons_mk (Below.trod laidOut (by kernel_rfl) (of_decide_eq_true (by kernel_rfl)) k0 bel lt0) (trodAll_cons_mk (Below.trod laidOut (by kernel_rfl) (of_decide_eq_true (by kernel_rfl)) k1 bel lt1) (trodAll_cons_mk (Below.trod laidOut (by kernel_rfl) (of_decide_eq_true (by kernel_rfl)) k2 bel lt2) (trodAll_cons_mk (Below.trod laidOut (by kernel_rfl) (of_decide_eq_true (by kernel_rfl)) k3 bel lt3) trodAll_mk0)))), rfl, bel.frame _, fun h => by cases h⟩

theorem shelfHonest_holds : Rows.ShelfHonestSaid :=
  OpenClaim.holds_of_wide 4 Try.f4 rfl rfl rfl rfl rfl rfl rfl ⟨rfl, rfl, rfl, rfl, rfl⟩ rfl rfl rfl rfl rfl (by kernel_rfl) Try.func4 (by kernel_rfl)
    (of_decide_eq_true (by kernel_rfl)) (by unfold Func.isWrapper; first | (rw [if_pos (by decide +kernel)]; kernel_rfl) | (rw [if_neg (by decide +kernel)]; exact ⟨rfl, rfl⟩))
    (fun os started H enc _ => shelfHonest_lifted os started H enc)
#print axioms shelfHonest_holds
end Go.Proofs.Ytnapokalopcdkaa
