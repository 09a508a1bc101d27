/- The walks of the document's Check, load, Put of messages. -/
import Derived.Test.YtommlolhpaeioaaDoorRefA
import Derived.Test.YtommlolhpaeioaaDoorMfRbW
import Derived.Test.YtommlolhpaeioaaDoorWireK
namespace Go.Proofs.YtommlolhpaeioaaDoor
open Go.RowKit
set_option linter.unusedVariables false
set_option linter.unusedSimpArgs false
attribute [local go_sem] ba_get ba_cut ba_add
set_option maxRecDepth 100000 in
set_option maxHeartbeats 8000000 in
theorem rcheck44_any (m : Pl.Msg) (X : Cx) (w : World) (hok : SnOk w m.snap X) (hfit : MgFit m) : Calls Tryd.prog 32 #[.agg (mgL m X).toArray] w (RetB (fun v _ => v = .int .i64 (Pl.wchk m : Int)) w) := by
  obtain ⟨E, hE⟩ : ∃ E, Pl.wchk m = E := ⟨_, rfl⟩
  rw [hE]
  have HE := Lib.hid hE; clear hE
  have HSM := Lib.hid hok.sum
  have HOK := Lib.hid hok
  have HI := Lib.hid (info_mg hok)
  have HIS := Lib.hid (info_sn hok)
  have hal := fun W h => ralone_any m X W h hfit
  have hmc := fun W h => rmcheck_any m.snap X W h hfit.snap
  have hdl := hfit.data
  obtain ⟨q, hq⟩ : ∃ q, Pl.aloneM m = q := ⟨_, rfl⟩
  rw [hq] at hal
  have HC := Lib.hid (And.intro hal (And.intro hmc hq)); clear hal hmc hq
  obtain ⟨LS, hLS⟩ : ∃ L, mgL m X = L := ⟨_, rfl⟩
  rw [hLS]
  have HLS := Lib.hid hLS
  go_enter Tryd.func32, Tryd.ntmps32
  go_upto_region 1 with (fail)
  generalize hV : w.alloc _ = V
  have hx : Mg V w.heap.size m X := by rw [← hV, ← hLS]; exact mg_row HSM.out (heap_alloc_new w _)
  have hbV : Below w.heap.size w V := by rw [← hV]; exact (Below.refl _ _).alloc (Nat.le_refl _) _
  have hBV : w.heap.size < V.heap.size := by rw [← hV]; simp
  replace hok := hok.below hbV
  clear hV hLS hfit
  have HX := Lib.hid hx
  have hra := HX.out.all
  rw [HLS.out] at hra
  have hinf := HI.out
  rw [HLS.out] at hinf
  have hk0 := hx.k
  clear hx
  by_cases hk1 : m.k < 1
  · have hd : decide (m.k < 1) = true := decide_eq_true hk1
    have HR := Lib.hid (show E = 11 by rw [← HE.out]; unfold Pl.wchk Pl.knownM; rw [if_pos (decide_eq_false (by omega))])
    go_wp2_with fail
    go_ret
    exact ⟨_, rfl, by rw [HR.out]; rfl, hbV⟩
  have hd1 : decide (m.k < 1) = false := decide_eq_false hk1
  by_cases hk6 : 6 < m.k
  · have hd : decide (6 < m.k) = true := decide_eq_true hk6
    have HR := Lib.hid (show E = 11 by rw [← HE.out]; unfold Pl.wchk Pl.knownM; rw [if_pos (decide_eq_false (by omega))])
    go_wp2_with fail
    go_ret
    exact ⟨_, rfl, by rw [HR.out]; rfl, hbV⟩
  have hd6 : decide (6 < m.k) = false := decide_eq_false hk6
  have hwc : E = if q = false then 1 else Pl.kindE m := by
    rw [← HE.out]; unfold Pl.wchk Pl.knownM
    rw [if_neg (by rw [decide_eq_true (by omega)]; simp), HC.out.2.2]
  have HWC := Lib.hid hwc; clear hwc
  go_wp2_with (with_reducible refine wpList_load_mid rfl 31 _ rfl w.heap.size 0 rfl LS _ hra Tryd.underlying31 rfl hinf ?_)
  rw [← HLS.out]
  (with_reducible refine (HC.out.1 _ hok).mono ?_)
  rintro e w3 ⟨v, rfl, rfl, hb3⟩
  rw [HLS.out]
  have hx3 := HX.out.keep HSM.out hBV hb3
  have hd3 := hbV.trans (hb3.mono hbV.size)
  have HD := Lib.hid hd3
  clear hra hinf hok hb3 hbV hBV hd3 hk0 hd1 hd6
  have hsn := hx3.snap
  have hinS := HIS.out
  obtain ⟨SL, hSL⟩ : ∃ L, snL m.snap X = L := ⟨_, rfl⟩
  rw [hSL] at hsn hinS
  have HSL := Lib.hid hSL; clear hSL
  obtain ⟨-, c0, c1, -, -, -, -, -, -, -, -, -, -, -, c2, c3⟩ := hx3
  cases q with
  | false =>
    have HR := Lib.hid (show E = 1 by rw [HWC.out, if_pos rfl])
    go_wp2_with fail
    go_ret
    exact ⟨_, rfl, by rw [HR.out]; rfl, HD.out⟩
  | true =>
    have hke : E = Pl.kindE m := by rw [HWC.out, if_neg (by simp)]
    have HKE := Lib.hid hke; clear hke
    by_cases h1 : m.k = 1
    · have e1 : (m.k == 1) = true := by rw [h1]; rfl
      by_cases hg : 65536 < m.data.length
      · have hd : decide ((65536 : Int) < (m.data.length : Int)) = true := decide_eq_true (by omega)
        have HR := Lib.hid (show E = 6 by rw [HKE.out]; unfold Pl.kindE; rw [if_pos h1, if_pos hg])
        go_wp2_with fail
        go_ret
        exact ⟨_, rfl, by rw [HR.out]; rfl, HD.out⟩
      · have hd : decide ((65536 : Int) < (m.data.length : Int)) = false := decide_eq_false (by omega)
        have HR := Lib.hid (show E = 0 by rw [HKE.out]; unfold Pl.kindE; rw [if_pos h1, if_neg hg])
        go_wp2_with fail
        go_ret
        exact ⟨_, rfl, by rw [HR.out]; rfl, HD.out⟩
    have e1 : (m.k == 1) = false := beq_eq_false_iff_ne.2 h1
    by_cases h2 : m.k = 2
    · have e2 : (m.k == 2) = true := by rw [h2]; rfl
      by_cases hg : m.data.length < 1
      · have hd : decide ((m.data.length : Int) < 1) = true := decide_eq_true (by omega)
        have HR := Lib.hid (show E = 1 by rw [HKE.out]; unfold Pl.kindE; rw [if_neg h1, if_pos h2, if_pos (.inl hg)])
        go_wp2_with fail
        go_ret
        exact ⟨_, rfl, by rw [HR.out]; rfl, HD.out⟩
      have hd : decide ((m.data.length : Int) < 1) = false := decide_eq_false (by omega)
      by_cases hg2 : 100 < m.data.length
      · have hd2 : decide ((100 : Int) < (m.data.length : Int)) = true := decide_eq_true (by omega)
        have HR := Lib.hid (show E = 1 by rw [HKE.out]; unfold Pl.kindE; rw [if_neg h1, if_pos h2, if_pos (.inr hg2)])
        go_wp2_with fail
        go_ret
        exact ⟨_, rfl, by rw [HR.out]; rfl, HD.out⟩
      · have hd2 : decide ((100 : Int) < (m.data.length : Int)) = false := decide_eq_false (by omega)
        have HR := Lib.hid (show E = 0 by rw [HKE.out]; unfold Pl.kindE; rw [if_neg h1, if_pos h2, if_neg (by omega)])
        go_wp2_with fail
        go_ret
        exact ⟨_, rfl, by rw [HR.out]; rfl, HD.out⟩
    have e2 : (m.k == 2) = false := beq_eq_false_iff_ne.2 h2
    by_cases h3 : m.k = 3
    · have e3 : (m.k == 3) = true := by rw [h3]; rfl
      have HR := Lib.hid (show E = Pl.mchk m.snap by rw [HKE.out]; unfold Pl.kindE; rw [if_neg h1, if_neg h2, if_pos h3])
      have hok3 : SnOk w3 m.snap X := HOK.out.below HD.out
      go_wp2_with (with_reducible refine wpList_load_mid rfl 28 _ rfl w.heap.size 2 rfl SL _ hsn Tryd.underlying28 rfl hinS ?_)
      rw [← HSL.out]
      (with_reducible refine (HC.out.2.1 _ hok3).mono ?_)
      rintro e w4 ⟨v, rfl, rfl, hb4⟩
      rw [← HR.out]
      go_wp2_with fail
      go_ret
      exact ⟨_, rfl, rfl, HD.out.trans (hb4.mono HD.out.size)⟩
    have e3 : (m.k == 3) = false := beq_eq_false_iff_ne.2 h3
    by_cases h4 : m.k = 4
    · have e4 : (m.k == 4) = true := by rw [h4]; rfl
      by_cases hg : m.n < 0
      · have hd : decide (m.n < 0) = true := decide_eq_true hg
        have HR := Lib.hid (show E = 1 by rw [HKE.out]; unfold Pl.kindE; rw [if_neg h1, if_neg h2, if_neg h3, if_pos h4, if_pos hg])
        go_wp2_with fail
        go_ret
        exact ⟨_, rfl, by rw [HR.out]; rfl, HD.out⟩
      · have hd : decide (m.n < 0) = false := decide_eq_false hg
        have HR := Lib.hid (show E = 0 by rw [HKE.out]; unfold Pl.kindE; rw [if_neg h1, if_neg h2, if_neg h3, if_pos h4, if_neg hg])
        go_wp2_with fail
        go_ret
        exact ⟨_, rfl, by rw [HR.out]; rfl, HD.out⟩
    have e4 : (m.k == 4) = false := beq_eq_false_iff_ne.2 h4
    by_cases h5 : m.k = 5
    · have e5 : (m.k == 5) = true := by rw [h5]; rfl
      by_cases hg : m.why < 1
      · have hd : decide (m.why < 1) = true := decide_eq_true hg
        have HR := Lib.hid (show E = 1 by rw [HKE.out]; unfold Pl.kindE; rw [if_neg h1, if_neg h2, if_neg h3, if_neg h4, if_pos h5, if_pos (.inl hg)])
        go_wp2_with fail
        go_ret
        exact ⟨_, rfl, by rw [HR.out]; rfl, HD.out⟩
      have hd : decide (m.why < 1) = false := decide_eq_false hg
      by_cases hg2 : 23 < m.why
      · have hd2 : decide (23 < m.why) = true := decide_eq_true hg2
        have HR := Lib.hid (show E = 1 by rw [HKE.out]; unfold Pl.kindE; rw [if_neg h1, if_neg h2, if_neg h3, if_neg h4, if_pos h5, if_pos (.inr hg2)])
        go_wp2_with fail
        go_ret
        exact ⟨_, rfl, by rw [HR.out]; rfl, HD.out⟩
      · have hd2 : decide (23 < m.why) = false := decide_eq_false hg2
        have HR := Lib.hid (show E = 0 by rw [HKE.out]; unfold Pl.kindE; rw [if_neg h1, if_neg h2, if_neg h3, if_neg h4, if_pos h5, if_neg (by omega)])
        go_wp2_with fail
        go_ret
        exact ⟨_, rfl, by rw [HR.out]; rfl, HD.out⟩
    have e5 : (m.k == 5) = false := beq_eq_false_iff_ne.2 h5
    have HR := Lib.hid (show E = 0 by rw [HKE.out]; unfold Pl.kindE; rw [if_neg h1, if_neg h2, if_neg h3, if_neg h4, if_neg h5])
    go_wp2_with fail
    go_ret
    exact ⟨_, rfl, by rw [HR.out]; rfl, HD.out⟩
set_option maxRecDepth 100000 in
set_option maxHeartbeats 8000000 in
theorem load_any (m : Pl.Msg) (X : Cx) (w : World) (hok : SnOk w m.snap X) (hfit : MgFit m) (hm : Pl.MOk m) (hk : 1 ≤ m.k ∧ m.k ≤ 6) : Calls Tryd.prog 61 #[.agg (mgL m X).toArray] w (RetB (fun v _ => v = .string ⟨(Pl.bodyM m).toArray⟩) w) := by
  obtain ⟨R, hR⟩ : ∃ R, Pl.bodyM m = R := ⟨_, rfl⟩
  rw [hR]
  have HR := Lib.hid hR; clear hR
  have HSM := Lib.hid hok.sum
  have HOK := Lib.hid hok
  have HIS := Lib.hid (info_sn hok)
  have hmb := fun W h => rmbytes_any m.snap X W h hfit.snap hm.clk
  have HC := Lib.hid (And.intro hmb (And.intro hm.n hm.why)); clear hmb hm
  obtain ⟨LS, hLS⟩ : ∃ L, mgL m X = L := ⟨_, rfl⟩
  rw [hLS]
  go_enter Tryd.func61, Tryd.ntmps61
  go_upto_region 1 with (fail)
  generalize hV : w.alloc _ = V
  have hx : Mg V w.heap.size m X := by rw [← hV, ← hLS]; exact mg_row HSM.out (heap_alloc_new w _)
  have hbV : Below w.heap.size w V := by rw [← hV]; exact (Below.refl _ _).alloc (Nat.le_refl _) _
  clear hV hLS hfit hok
  have HD := Lib.hid hbV
  have hsn := hx.snap
  have hinS := HIS.out
  obtain ⟨SL, hSL⟩ : ∃ L, snL m.snap X = L := ⟨_, rfl⟩
  rw [hSL] at hsn hinS
  have HSL := Lib.hid hSL; clear hSL
  obtain ⟨-, c0, c1, -, -, -, -, -, -, -, -, -, -, -, c2, c3⟩ := hx
  clear hbV
  by_cases h1 : m.k = 1
  · have e1 : (m.k == 1) = true := by rw [h1]; rfl
    have HB := Lib.hid (show R = m.data from by rw [← HR.out]; unfold Pl.bodyM; rw [if_pos (by omega)])
    go_wp2_with fail
    go_ret
    exact ⟨_, rfl, by rw [HB.out]; rfl, HD.out⟩
  by_cases h2 : m.k = 2
  · have e1 : (m.k == 1) = false := by rw [beq_eq_false_iff_ne]; omega
    have e2 : (m.k == 2) = true := by rw [h2]; rfl
    have HB := Lib.hid (show R = m.data from by rw [← HR.out]; unfold Pl.bodyM; rw [if_pos (by omega)])
    go_wp2_with fail
    go_ret
    exact ⟨_, rfl, by rw [HB.out]; rfl, HD.out⟩
  by_cases h3 : m.k = 3
  · have e1 : (m.k == 1) = false := by rw [beq_eq_false_iff_ne]; omega
    have e2 : (m.k == 2) = false := by rw [beq_eq_false_iff_ne]; omega
    have e3 : (m.k == 3) = true := by rw [h3]; rfl
    have HB := Lib.hid (show R = (Pl.mbytes m.snap).1 from by rw [← HR.out]; unfold Pl.bodyM; rw [if_neg (by omega), if_pos h3])
    obtain ⟨⟨b, e⟩, hbe⟩ : ∃ x, Pl.mbytes m.snap = x := ⟨_, rfl⟩
    have HBE := Lib.hid hbe; clear hbe
    go_wp2_with (with_reducible refine wpList_load_mid rfl 28 _ rfl w.heap.size 2 rfl SL _ hsn Tryd.underlying28 rfl hinS ?_)
    rw [← HSL.out]
    (with_reducible refine (HC.out.1 _ (HOK.out.below HD.out)).mono ?_)
    rintro e w4 ⟨v, rfl, rfl, hb4⟩
    rw [HBE.out]
    unfold bytesV
    go_wp2_with fail
    go_ret
    exact ⟨_, rfl, by rw [HB.out, HBE.out]; rfl, HD.out.trans (hb4.mono HD.out.size)⟩
  by_cases h4 : m.k = 4
  · have e1 : (m.k == 1) = false := by rw [beq_eq_false_iff_ne]; omega
    have e2 : (m.k == 2) = false := by rw [beq_eq_false_iff_ne]; omega
    have e3 : (m.k == 3) = false := by rw [beq_eq_false_iff_ne]; omega
    have e4 : (m.k == 4) = true := by rw [h4]; rfl
    have HB := Lib.hid (show R = Lib.itoa m.n from by rw [← HR.out]; unfold Pl.bodyM; rw [if_neg (by omega), if_neg (by omega), if_pos h4])
    go_wp2_with fail
    (with_reducible refine (rdec_any m.n _ HC.out.2.1).mono ?_)
    rintro e w4 ⟨v, rfl, rfl, hb4⟩
    go_wp2_with fail
    go_ret
    exact ⟨_, rfl, by rw [HB.out]; rfl, HD.out.trans (hb4.mono HD.out.size)⟩
  by_cases h5 : m.k = 5
  · have e1 : (m.k == 1) = false := by rw [beq_eq_false_iff_ne]; omega
    have e2 : (m.k == 2) = false := by rw [beq_eq_false_iff_ne]; omega
    have e3 : (m.k == 3) = false := by rw [beq_eq_false_iff_ne]; omega
    have e4 : (m.k == 4) = false := by rw [beq_eq_false_iff_ne]; omega
    have e5 : (m.k == 5) = true := by rw [h5]; rfl
    have HB := Lib.hid (show R = Lib.itoa m.why from by rw [← HR.out]; unfold Pl.bodyM; rw [if_neg (by omega), if_neg (by omega), if_neg (by omega), if_pos h5])
    go_wp2_with fail
    (with_reducible refine (rdec_any m.why _ HC.out.2.2).mono ?_)
    rintro e w4 ⟨v, rfl, rfl, hb4⟩
    go_wp2_with fail
    go_ret
    exact ⟨_, rfl, by rw [HB.out]; rfl, HD.out.trans (hb4.mono HD.out.size)⟩
  have e1 : (m.k == 1) = false := by rw [beq_eq_false_iff_ne]; omega
  have e2 : (m.k == 2) = false := by rw [beq_eq_false_iff_ne]; omega
  have e3 : (m.k == 3) = false := by rw [beq_eq_false_iff_ne]; omega
  have e4 : (m.k == 4) = false := by rw [beq_eq_false_iff_ne]; omega
  have e5 : (m.k == 5) = false := by rw [beq_eq_false_iff_ne]; omega
  have HB := Lib.hid (show R = [] from by rw [← HR.out]; unfold Pl.bodyM; rw [if_neg (by omega), if_neg h3, if_neg h4, if_neg h5])
  go_wp2_with fail
  go_ret
  exact ⟨_, rfl, by rw [HB.out]; rfl, HD.out⟩
set_option maxRecDepth 100000 in
set_option maxHeartbeats 8000000 in
theorem rput44_any (m : Pl.Msg) (X : Cx) (w : World) (hok : SnOk w m.snap X) (hfit : MgFit m) (hm : Pl.MOk m) : Calls Tryd.prog 30 #[.agg (mgL m X).toArray] w (RetB (fun v _ => v = bytesV (Pl.wput m)) w) := by
  obtain ⟨R, hR⟩ : ∃ R, Pl.wput m = R := ⟨_, rfl⟩
  rw [hR]
  have HR := Lib.hid hR; clear hR
  have HM := Lib.hid hm
  have HSM := Lib.hid hok.sum
  have HOK := Lib.hid hok
  have HI := Lib.hid (info_mg hok)
  have hck := fun W h => rcheck44_any m X W h hfit
  have hld := fun W h hk => load_any m X W h hfit hm hk
  obtain ⟨E, hE⟩ : ∃ E, Pl.wchk m = E := ⟨_, rfl⟩
  rw [hE] at hck
  have HC := Lib.hid (And.intro hck (And.intro hld hE)); clear hck hld hE hm
  obtain ⟨LS, hLS⟩ : ∃ L, mgL m X = L := ⟨_, rfl⟩
  rw [hLS]
  have HLS := Lib.hid hLS
  go_enter Tryd.func30, Tryd.ntmps30
  go_upto_region 1 with (fail)
  generalize hV : w.alloc _ = V
  have hx : Mg V w.heap.size m X := by rw [← hV, ← hLS]; exact mg_row HSM.out (heap_alloc_new w _)
  have hbV : Below w.heap.size w V := by rw [← hV]; exact (Below.refl _ _).alloc (Nat.le_refl _) _
  have hBV : w.heap.size < V.heap.size := by rw [← hV]; simp
  replace hok := hok.below hbV
  clear hV hLS hfit
  have HX := Lib.hid hx
  have hra := HX.out.all
  rw [HLS.out] at hra
  have hinf := HI.out
  rw [HLS.out] at hinf
  have HIN := Lib.hid hinf
  clear hx
  go_wp2_with (with_reducible refine wpList_load_mid rfl 31 _ rfl w.heap.size 0 rfl LS _ hra Tryd.underlying31 rfl hinf ?_)
  rw [← HLS.out]
  (with_reducible refine (HC.out.1 _ hok).mono ?_)
  rintro e w1 ⟨v, rfl, rfl, hb1⟩
  rw [HLS.out]
  have hd1 : Below w.heap.size w w1 := hbV.trans (hb1.mono hbV.size)
  have hx1 := HX.out.keep HSM.out hBV hb1
  have HD := Lib.hid hd1
  have HBW := Lib.hid (Nat.lt_of_lt_of_le hBV hb1.size)
  have HX1 := Lib.hid hx1
  clear hra hinf hb1 hBV hbV hok hd1 hx1
  by_cases hE0 : E ≠ 0
  · have HRE := Lib.hid (show R = ([], E) by rw [← HR.out, ← HC.out.2.2]; exact Pl.wput_no (by rw [HC.out.2.2]; exact hE0))
    have hne : ((E : Int) == 0) = false := by rw [beq_eq_false_iff_ne]; omega
    have hne' : ((E : Int) != 0) = true := by unfold bne; rw [hne]; rfl
    go_wp2_with fail
    go_ret2
    exact ⟨_, rfl, by rw [HRE.out]; rfl, HD.out⟩
  obtain rfl : E = 0 := by omega
  clear hE0
  have HRE := Lib.hid (show R = (Pl.rowB [Lib.itoa m.k, Pl.bodyM m], 0) by rw [← HR.out]; exact Pl.wput_ok HC.out.2.2)
  have HWO := Lib.hid (Pl.wOk_of HC.out.2.2)
  have HRS := Lib.hid (Pl.row_short HWO.out HM.out)
  go_wp2_with fail
  have hbd := HBW.out
  refine wp_region_held_drew (S := (fun w' => Mg w' w.heap.size m X)) (by kernel_rfl) (by exact HX1.out.keep HSM.out HBW.out (Below.refl _ _).drew) (fun hHeld => ?_)
  refine wpAnyH_take (i := 0) (v := ?_) rfl (by kernel_rfl) (by kernel_rfl) (by kernel_rfl) (fun _ _ _ h => h) (Or.inl ⟨by kernel_rfl, ?_⟩) hHeld ?_
  rotate_left
  · (intro w' hSw; obtain ⟨hS0, hS1, hS2, hS3, hS4, hS5, hS6, hS7, hS8, hS9, hS10, hS11, hS12, hS13, hS14, hS15⟩ := hSw; go_simp; try with_reducible rfl)
  simp only [Act.put, List.setIfInBounds_toArray, List.set_cons_zero, List.set_cons_succ, List.getElem_toArray, List.getElem_cons_succ, List.getElem_cons_zero]
  refine wpAnyH_take (i := 1) (v := ?_) rfl (by kernel_rfl) (by kernel_rfl) (by kernel_rfl) (fun _ _ _ h => h) (Or.inl ⟨by kernel_rfl, ?_⟩) hHeld ?_
  rotate_left
  · (intro w' hSw; obtain ⟨hS0, hS1, hS2, hS3, hS4, hS5, hS6, hS7, hS8, hS9, hS10, hS11, hS12, hS13, hS14, hS15⟩ := hSw; go_simp; try with_reducible rfl)
  simp only [Act.put, List.setIfInBounds_toArray, List.set_cons_zero, List.set_cons_succ, List.getElem_toArray, List.getElem_cons_succ, List.getElem_cons_zero]
  refine wpAnyH_take (i := 3) (v := .agg LS.toArray) rfl (by kernel_rfl) (by kernel_rfl) (by kernel_rfl) (fun _ _ _ h => h) (yieldsIf_load_mid (by kernel_rfl) 31 _ rfl w.heap.size 0 rfl LS _ (fun w' h => (by have h1 := (show Mg w' w.heap.size m X from h).all; rwa [HLS.out] at h1)) Tryd.underlying31 rfl HIN.out) hHeld ?_
  simp only [Act.put, List.setIfInBounds_toArray, List.set_cons_zero, List.set_cons_succ, List.getElem_toArray, List.getElem_cons_succ, List.getElem_cons_zero]
  refine wpAnyH_ready (rs := [2]) (by kernel_rfl) (by simp) (AllReadyH.cons rfl (fun K hK => ?_) AllReadyH.nil)
  go_simp
  (with_reducible refine (rdec_any m.k _ HM.out.k).mono ?_)
  rintro e x1 ⟨v, rfl, rfl, hb1⟩
  have hx2 : Mg x1 w.heap.size m X := (HX1.out.keep HSM.out hbd ((Below.refl _ _).drew)).keep HSM.out (by simpa using hbd) hb1
  have hd2 : Below w.heap.size w x1 := (HD.out.trans (Below.refl _ _).drew).trans (hb1.mono (by simp; omega))
  have hz2 : w.heap.size < x1.heap.size := by have := hb1.size; simp at this; omega
  refine hK.out _ _ hx2 (fun hHeld => ?_)
  clear hK K
  (try simp only [Act.put, List.setIfInBounds_toArray, List.set_cons_zero, List.set_cons_succ, List.getElem_toArray, List.getElem_cons_succ, List.getElem_cons_zero])
  refine wpAnyH_ready (rs := [4]) (by kernel_rfl) (by simp) (AllReadyH.cons rfl (fun K hK => ?_) AllReadyH.nil)
  go_simp
  rw [← HLS.out]
  (with_reducible refine (HC.out.2.1 _ (HOK.out.below hd2) HWO.out.k).mono ?_)
  rintro e x2 ⟨v, rfl, rfl, hb2⟩
  have hx3 : Mg x2 w.heap.size m X := hx2.keep HSM.out hz2 hb2
  have hd3 : Below w.heap.size w x2 := hd2.trans (hb2.mono hd2.size)
  have hz3 : w.heap.size < x2.heap.size := Nat.lt_of_lt_of_le hz2 hb2.size
  refine hK.out _ _ hx3 (fun hHeld => ?_)
  clear hK K
  (try simp only [Act.put, List.setIfInBounds_toArray, List.set_cons_zero, List.set_cons_succ, List.getElem_toArray, List.getElem_cons_succ, List.getElem_cons_zero])
  have hx4 : Mg (x2.alloc (.cells (strs [Lib.itoa m.k, Pl.bodyM m]).toArray 9)) w.heap.size m X := hx3.keep HSM.out hz3 ((Below.refl _ _).alloc (Nat.le_refl _) _)
  have hd4 : Below w.heap.size w (x2.alloc (.cells (strs [Lib.itoa m.k, Pl.bodyM m]).toArray 9)) := hd3.alloc hd3.size _
  have hrr : Rd (x2.alloc (.cells (strs [Lib.itoa m.k, Pl.bodyM m]).toArray 9)) 1 (some ⟨x2.heap.size, 0, none⟩) 2 (strs [Lib.itoa m.k, Pl.bodyM m]) := Rd.new x2 (strs [Lib.itoa m.k, Pl.bodyM m]) 9
  have hrow := rrow_any (some ⟨x2.heap.size, 0, none⟩) 2 2 [Lib.itoa m.k, Pl.bodyM m] _ hrr (by omega) (by
    have h1 := Pl.rowB_len_le [Lib.itoa m.k, Pl.bodyM m] 704011 HRS.out
    simp only [show ([Lib.itoa m.k, Pl.bodyM m] : List (List UInt8)).length = 2 from rfl] at h1
    omega)
  have hz4 : w.heap.size < (x2.alloc (.cells (strs [Lib.itoa m.k, Pl.bodyM m]).toArray 9)).heap.size := by simp; omega
  obtain ⟨X5, hX5⟩ : ∃ X5, x2.alloc (.cells (strs [Lib.itoa m.k, Pl.bodyM m]).toArray 9) = X5 := ⟨_, rfl⟩
  rw [hX5] at hx4 hd4 hrow hz4
  have HRR := Lib.hid hrow
  replace hX5 : x2.alloc (.cells #[.string ⟨(Lib.itoa m.k).toArray⟩, .string ⟨(Pl.bodyM m).toArray⟩] 9) = X5 := hX5
  clear hrow hrr
  refine wpAnyH_ready (rs := [5]) (by kernel_rfl) (by simp) (AllReadyH.cons rfl (fun K hK => ?_) AllReadyH.nil)
  go_simp
  refine hK.out _ _ hx4 (fun hHeld => ?_)
  clear hK K
  (try simp only [Act.put, List.setIfInBounds_toArray, List.set_cons_zero, List.set_cons_succ, List.getElem_toArray, List.getElem_cons_succ, List.getElem_cons_zero])
  refine wpAnyH_ready (rs := [6]) (by kernel_rfl) (by simp) (AllReadyH.cons rfl (fun K hK => ?_) AllReadyH.nil)
  go_simp
  (with_reducible refine HRR.out.mono ?_)
  rintro e x6 ⟨v, rfl, rfl, hb6⟩
  have hd6 : Below w.heap.size w x6 := hd4.trans (hb6.mono hd4.size)
  have hx6 : Mg x6 w.heap.size m X := hx4.keep HSM.out hz4 hb6
  refine hK.out _ _ hx6 (fun hHeld => ?_)
  clear hK K
  (try simp only [Act.put, List.setIfInBounds_toArray, List.set_cons_zero, List.set_cons_succ, List.getElem_toArray, List.getElem_cons_succ, List.getElem_cons_zero])
  refine wpAnyH_take (i := 7) (v := ?_) rfl (by kernel_rfl) (by kernel_rfl) (by kernel_rfl) (fun _ _ _ h => h) (Or.inl ⟨by kernel_rfl, ?_⟩) hHeld ?_
  rotate_left
  · (intro w' hSw; obtain ⟨hS0, hS1, hS2, hS3, hS4, hS5, hS6, hS7, hS8, hS9, hS10, hS11, hS12, hS13, hS14, hS15⟩ := hSw; go_simp; try with_reducible rfl)
  simp only [Act.put, List.setIfInBounds_toArray, List.set_cons_zero, List.set_cons_succ, List.getElem_toArray, List.getElem_cons_succ, List.getElem_cons_zero]
  refine wpAnyH_take (i := 8) (v := ?_) rfl (by kernel_rfl) (by kernel_rfl) (by kernel_rfl) (fun _ _ _ h => h) (Or.inl ⟨by kernel_rfl, ?_⟩) hHeld ?_
  rotate_left
  · (intro w' hSw; obtain ⟨hS0, hS1, hS2, hS3, hS4, hS5, hS6, hS7, hS8, hS9, hS10, hS11, hS12, hS13, hS14, hS15⟩ := hSw; go_simp; try with_reducible rfl)
  simp only [Act.put, List.setIfInBounds_toArray, List.set_cons_zero, List.set_cons_succ, List.getElem_toArray, List.getElem_cons_succ, List.getElem_cons_zero]
  refine wpAnyH_done (by kernel_rfl) ?_ _
  go_wp2_with fail
  go_ret2
  exact ⟨_, rfl, by rw [HRE.out]; rfl, hd6⟩
end Go.Proofs.YtommlolhpaeioaaDoor
