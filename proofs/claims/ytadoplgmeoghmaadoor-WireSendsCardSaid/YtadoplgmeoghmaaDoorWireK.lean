/- The walk of wire's Check. The walk of wire's Put. The walk of the statements' awake: true. -/
import Derived.Test.YtadoplgmeoghmaaDoorWireB
namespace Go.Proofs.YtadoplgmeoghmaaDoor
open Go.RowKit
set_option linter.unusedVariables false
set_option linter.unusedSimpArgs false
attribute [local go_sem] ba_get ba_cut ba_add
theorem bare_fit {m : Pl.Msg} (h : MgFit m) : MgFit (Pl.bareM m) := by
  by_cases h12 : m.k = 1 ∨ m.k = 2
  · rw [bareM_12 h12]; exact ⟨by simp, h.snap⟩
  by_cases h3 : m.k = 3
  · rw [bareM_3 h3]; exact ⟨h.data, fit_zero⟩
  by_cases h4 : m.k = 4
  · rw [bareM_4 h4]; exact ⟨h.data, h.snap⟩
  by_cases h5 : m.k = 5
  · rw [bareM_5 h5]; exact ⟨h.data, h.snap⟩
  by_cases h6 : m.k = 6
  · unfold Pl.bareM; rw [if_neg h12, if_neg h3, if_neg h4, if_neg h5]; exact h
  · rw [bareM_no (by omega)]; exact h
set_option maxRecDepth 100000 in
set_option maxHeartbeats 8000000 in
theorem wcheck_any (m : Pl.Msg) (X : Cx) (w : World) (hok : SnOk w m.snap X) (hfit : MgFit m) : Calls Tryd.prog 14 #[.agg (mgL m X).toArray] w (RetB (fun v _ => v = .int .i64 (Pl.wchk m : Int)) w) := by
  obtain ⟨E, hE⟩ : ∃ E, Pl.wchk m = E := ⟨_, rfl⟩
  rw [hE]
  have HE := Lib.hid hE; clear hE
  have HF := Lib.hid hfit
  have HSM := Lib.hid hok.sum
  have HOK := Lib.hid hok
  have HI := Lib.hid (info_mg hok)
  have HIS := Lib.hid (info_sn hok)
  have hb0 := fun W h => bare_any m X W h
  have hem := fun X' W h => empty_any (Pl.bareM m) X' W h (bare_fit hfit)
  have hmc := fun W h => mcheck_any m.snap X W h hfit.snap
  have HC := Lib.hid (And.intro hb0 (And.intro hem hmc)); clear hb0 hem hmc
  obtain ⟨LS, hLS⟩ : ∃ L, mgL m X = L := ⟨_, rfl⟩
  rw [hLS]
  have HLS := Lib.hid hLS
  go_enter Tryd.func14, Tryd.ntmps14
  go_upto_region 1 with (fail)
  generalize hV : w.alloc _ = V
  have hx : Mg V w.heap.size m X := by rw [← hV, ← hLS]; exact mg_row HSM.out (heap_alloc_new w _)
  have hbV : Below w.heap.size w V := by rw [← hV]; exact (Below.refl _ _).alloc (Nat.le_refl _) _
  have hBV : w.heap.size < V.heap.size := by rw [← hV]; simp
  have hok0 := hok
  replace hok := hok.below hbV
  clear hV hLS hfit
  have HX := Lib.hid hx
  have hra := HX.out.all
  rw [HLS.out] at hra
  have hinf := HI.out
  rw [HLS.out] at hinf
  clear hx
  go_wp2_with (with_reducible refine wpList_load_mid rfl 34 _ rfl w.heap.size 0 rfl LS _ hra Tryd.underlying34 rfl hinf ?_)
  rw [← HLS.out]
  (with_reducible refine (HC.out.1 _ hok).mono ?_)
  rintro e w1 ⟨v, rfl, ⟨X', rfl, hok1⟩, hb1⟩
  rw [HLS.out]
  have hd1 : Below w.heap.size w w1 := hbV.trans (hb1.mono hbV.size)
  have hB1 : w.heap.size < w1.heap.size := Nat.lt_of_lt_of_le hBV hb1.size
  have hx1 := HX.out.keep HSM.out hBV hb1
  have hl1 := mgL_len hok1
  have ho1 := mgL_one (Pl.bareM m) X'
  obtain ⟨L1, hL1⟩ : ∃ L, mgL (Pl.bareM m) X' = L := ⟨_, rfl⟩
  obtain ⟨K, hK⟩ : ∃ K, Pl.knownM m = K := ⟨_, rfl⟩
  rw [hL1] at hl1 ho1 ⊢
  rw [hK]
  have hi1 : (Tryd.prog.info? 34).map (·.size) = some L1.toArray.size := by rw [List.size_toArray, hl1]; exact info_msg
  have HL1 := Lib.hid (And.intro hL1 (And.intro hl1 (And.intro ho1 hi1)))
  have HW := Lib.hid (And.intro hd1 (And.intro hB1 (And.intro hx1 hok1)))
  have HKN := Lib.hid hK
  clear hra hinf hd1 hB1 hx1 hok1 hL1 hl1 ho1 hi1 hb1 hK
  go_upto_region 2 with (with_reducible refine wpList_store_mid rfl 34 _ _ rfl w1.heap.size 0 L1.toArray rfl rfl (there_row (heap_alloc_new _ _) (by rw [List.size_toArray, HL1.out.2.1]; exact Nat.le_of_ble_eq_true rfl)) HL1.out.2.2.2 HL1.out.2.2.1 ?_)
  generalize hW2 : World.setCells _ _ _ _ = w2
  have hb2 : Below w1.heap.size w1 w2 := by rw [← hW2]; exact ((Below.refl _ _).alloc (Nat.le_refl _) _).trans (Lib.below_setCells_w (Nat.le_refl _) _ _ _)
  have hr2 : w2.rangeAt w1.heap.size 0 L1 := by
    rw [← hW2]
    refine World.rangeAt_setCells_same _ _ _ _ (there_row (heap_alloc_new _ _) ?_)
    rw [HL1.out.2.1]; exact Nat.le_of_ble_eq_true rfl
  clear hW2 hok hok0 hbV hBV
  have hok2 := HW.out.2.2.2.below (hb2.mono (Nat.le_refl _))
  have hx2 := HW.out.2.2.1.keep HSM.out HW.out.2.1 hb2
  have hd2 := HW.out.1.trans (hb2.mono (Nat.le_of_lt HW.out.2.1))
  have hB2 : w.heap.size < w2.heap.size := Nat.lt_of_lt_of_le HW.out.2.1 hb2.size
  have HW2 := Lib.hid (And.intro hd2 (And.intro hx2 hB2))
  clear hb2 hd2 hx2 hB2
  have hinf1 : (Tryd.prog.info? 34).map (·.size) = some L1.length := by rw [HL1.out.2.1]; exact info_msg
  cases K with
  | false =>
    have HR := Lib.hid (show E = 11 by rw [← HE.out]; unfold Pl.wchk; rw [if_pos HKN.out])
    go_wp2_with fail
    go_ret
    exact ⟨_, rfl, by rw [HR.out]; rfl, HW2.out.1⟩
  | true =>
    have hwc : E = if Pl.aloneM m = false then 1 else Pl.kindE m := by rw [← HE.out]; unfold Pl.wchk; rw [if_neg (by rw [HKN.out]; simp)]
    have HWC := Lib.hid hwc; clear hwc
    go_wp2_with (with_reducible refine wpList_load_mid rfl 34 _ rfl w1.heap.size 0 rfl L1 _ hr2 Tryd.underlying34 rfl hinf1 ?_)
    rw [← HL1.out.1]
    (with_reducible refine (HC.out.2.1 X' _ hok2).mono ?_)
    rintro e w3 ⟨v, rfl, rfl, hb3⟩
    rw [HL1.out.1]
    have hx3 := HW2.out.2.1.keep HSM.out HW2.out.2.2 hb3
    have hd3 := HW2.out.1.trans (hb3.mono HW2.out.1.size)
    obtain ⟨q, hq⟩ : ∃ q, Pl.emptyM (Pl.bareM m) = q := ⟨_, rfl⟩
    rw [hq]
    have HQ := Lib.hid (show Pl.aloneM m = q from hq)
    have HD := Lib.hid hd3
    clear hq hr2 hinf1 hok2 hb3
    have hdl := HF.out.data
    have hsn := hx3.snap
    have hinS := HIS.out
    obtain ⟨SL, hSL⟩ : ∃ L, snL m.snap X = L := ⟨_, rfl⟩
    rw [hSL] at hsn hinS
    have HSL := Lib.hid hSL; clear hSL
    obtain ⟨-, c0, c1, -, -, -, -, -, -, -, -, -, -, -, c2, c3⟩ := hx3
    cases q with
    | false =>
      have HR := Lib.hid (show E = 1 by rw [HWC.out, if_pos HQ.out])
      go_wp2_with fail
      go_ret
      exact ⟨_, rfl, by rw [HR.out]; rfl, HD.out⟩
    | true =>
      have hke : E = Pl.kindE m := by rw [HWC.out, if_neg (by rw [HQ.out]; simp)]
      have HKE := Lib.hid hke; clear hke
      by_cases h1 : m.k = 1
      · have e1 : (m.k == 1) = true := by rw [h1]; rfl
        by_cases hg : 65536 < m.data.length
        · have hd : decide ((65536 : Int) < (m.data.length : Int)) = true := decide_eq_true (by omega)
          have HR := Lib.hid (show E = 6 by rw [HKE.out]; unfold Pl.kindE; rw [if_pos h1, if_pos hg])
          go_wp2_with fail
          go_ret
          exact ⟨_, rfl, by rw [HR.out]; rfl, HD.out⟩
        · have hd : decide ((65536 : Int) < (m.data.length : Int)) = false := decide_eq_false (by omega)
          have HR := Lib.hid (show E = 0 by rw [HKE.out]; unfold Pl.kindE; rw [if_pos h1, if_neg hg])
          go_wp2_with fail
          go_ret
          exact ⟨_, rfl, by rw [HR.out]; rfl, HD.out⟩
      have e1 : (m.k == 1) = false := beq_eq_false_iff_ne.2 h1
      by_cases h2 : m.k = 2
      · have e2 : (m.k == 2) = true := by rw [h2]; rfl
        by_cases hg : m.data.length < 1
        · have hd : decide ((m.data.length : Int) < 1) = true := decide_eq_true (by omega)
          have HR := Lib.hid (show E = 1 by rw [HKE.out]; unfold Pl.kindE; rw [if_neg h1, if_pos h2, if_pos (.inl hg)])
          go_wp2_with fail
          go_ret
          exact ⟨_, rfl, by rw [HR.out]; rfl, HD.out⟩
        have hd : decide ((m.data.length : Int) < 1) = false := decide_eq_false (by omega)
        by_cases hg2 : 100 < m.data.length
        · have hd2 : decide ((100 : Int) < (m.data.length : Int)) = true := decide_eq_true (by omega)
          have HR := Lib.hid (show E = 1 by rw [HKE.out]; unfold Pl.kindE; rw [if_neg h1, if_pos h2, if_pos (.inr hg2)])
          go_wp2_with fail
          go_ret
          exact ⟨_, rfl, by rw [HR.out]; rfl, HD.out⟩
        · have hd2 : decide ((100 : Int) < (m.data.length : Int)) = false := decide_eq_false (by omega)
          have HR := Lib.hid (show E = 0 by rw [HKE.out]; unfold Pl.kindE; rw [if_neg h1, if_pos h2, if_neg (by omega)])
          go_wp2_with fail
          go_ret
          exact ⟨_, rfl, by rw [HR.out]; rfl, HD.out⟩
      have e2 : (m.k == 2) = false := beq_eq_false_iff_ne.2 h2
      by_cases h3 : m.k = 3
      · have e3 : (m.k == 3) = true := by rw [h3]; rfl
        have HR := Lib.hid (show E = Pl.mchk m.snap by rw [HKE.out]; unfold Pl.kindE; rw [if_neg h1, if_neg h2, if_pos h3])
        have hok3 : SnOk w3 m.snap X := HOK.out.below HD.out
        go_wp2_with (with_reducible refine wpList_load_mid rfl 31 _ rfl w.heap.size 2 rfl SL _ hsn Tryd.underlying31 rfl hinS ?_)
        rw [← HSL.out]
        (with_reducible refine (HC.out.2.2 _ hok3).mono ?_)
        rintro e w4 ⟨v, rfl, rfl, hb4⟩
        rw [← HR.out]
        go_wp2_with fail
        go_ret
        exact ⟨_, rfl, rfl, HD.out.trans (hb4.mono HD.out.size)⟩
      have e3 : (m.k == 3) = false := beq_eq_false_iff_ne.2 h3
      by_cases h4 : m.k = 4
      · have e4 : (m.k == 4) = true := by rw [h4]; rfl
        by_cases hg : m.n < 0
        · have hd : decide (m.n < 0) = true := decide_eq_true hg
          have HR := Lib.hid (show E = 1 by rw [HKE.out]; unfold Pl.kindE; rw [if_neg h1, if_neg h2, if_neg h3, if_pos h4, if_pos hg])
          go_wp2_with fail
          go_ret
          exact ⟨_, rfl, by rw [HR.out]; rfl, HD.out⟩
        · have hd : decide (m.n < 0) = false := decide_eq_false hg
          have HR := Lib.hid (show E = 0 by rw [HKE.out]; unfold Pl.kindE; rw [if_neg h1, if_neg h2, if_neg h3, if_pos h4, if_neg hg])
          go_wp2_with fail
          go_ret
          exact ⟨_, rfl, by rw [HR.out]; rfl, HD.out⟩
      have e4 : (m.k == 4) = false := beq_eq_false_iff_ne.2 h4
      by_cases h5 : m.k = 5
      · have e5 : (m.k == 5) = true := by rw [h5]; rfl
        by_cases hg : m.why < 1
        · have hd : decide (m.why < 1) = true := decide_eq_true hg
          have HR := Lib.hid (show E = 1 by rw [HKE.out]; unfold Pl.kindE; rw [if_neg h1, if_neg h2, if_neg h3, if_neg h4, if_pos h5, if_pos (.inl hg)])
          go_wp2_with fail
          go_ret
          exact ⟨_, rfl, by rw [HR.out]; rfl, HD.out⟩
        have hd : decide (m.why < 1) = false := decide_eq_false hg
        by_cases hg2 : 23 < m.why
        · have hd2 : decide (23 < m.why) = true := decide_eq_true hg2
          have HR := Lib.hid (show E = 1 by rw [HKE.out]; unfold Pl.kindE; rw [if_neg h1, if_neg h2, if_neg h3, if_neg h4, if_pos h5, if_pos (.inr hg2)])
          go_wp2_with fail
          go_ret
          exact ⟨_, rfl, by rw [HR.out]; rfl, HD.out⟩
        · have hd2 : decide (23 < m.why) = false := decide_eq_false hg2
          have HR := Lib.hid (show E = 0 by rw [HKE.out]; unfold Pl.kindE; rw [if_neg h1, if_neg h2, if_neg h3, if_neg h4, if_pos h5, if_neg (by omega)])
          go_wp2_with fail
          go_ret
          exact ⟨_, rfl, by rw [HR.out]; rfl, HD.out⟩
      have e5 : (m.k == 5) = false := beq_eq_false_iff_ne.2 h5
      have HR := Lib.hid (show E = 0 by rw [HKE.out]; unfold Pl.kindE; rw [if_neg h1, if_neg h2, if_neg h3, if_neg h4, if_neg h5])
      go_wp2_with fail
      go_ret
      exact ⟨_, rfl, by rw [HR.out]; rfl, HD.out⟩
end Go.Proofs.YtadoplgmeoghmaaDoor
namespace Go.Proofs.YtadoplgmeoghmaaDoor
open Go.RowKit
set_option linter.unusedVariables false
set_option linter.unusedSimpArgs false
attribute [local go_sem] ba_get ba_cut ba_add
theorem two_sum (a b : List UInt8) (n : Nat) (h : a.length + b.length + 2 ≤ n) : sumLen [a, b] ≤ n := by simp only [sumLen]; omega
set_option maxRecDepth 100000 in
set_option maxHeartbeats 8000000 in
theorem wput_any (m : Pl.Msg) (X : Cx) (w : World) (hok : SnOk w m.snap X) (hfit : MgFit m) (hm : Pl.MOk m) (hv : VTab w) : Calls Tryd.prog 6 #[.agg (mgL m X).toArray] w (RetB (fun v _ => v = bytesV (Pl.wput m)) w) := by
  obtain ⟨R, hR⟩ : ∃ R, Pl.wput m = R := ⟨_, rfl⟩
  rw [hR]
  have HR := Lib.hid hR; clear hR
  have HM := Lib.hid hm
  have HSM := Lib.hid hok.sum
  have HOK := Lib.hid hok
  have HV := Lib.hid hv
  have HI := Lib.hid (info_mg hok)
  have HIS := Lib.hid (info_sn hok)
  have hck := fun W h => wcheck_any m X W h hfit
  have hmb := fun W h => mbytes_any m.snap X W h hfit.snap hm.clk
  obtain ⟨E, hE⟩ : ∃ E, Pl.wchk m = E := ⟨_, rfl⟩
  rw [hE] at hck
  have HC := Lib.hid (And.intro hck (And.intro hmb hE)); clear hck hmb hE hm
  obtain ⟨LS, hLS⟩ : ∃ L, mgL m X = L := ⟨_, rfl⟩
  rw [hLS]
  have HLS := Lib.hid hLS
  go_enter Tryd.func6, Tryd.ntmps6
  go_upto_region 1 with (fail)
  generalize hV : w.alloc _ = V
  have hx : Mg V w.heap.size m X := by rw [← hV, ← hLS]; exact mg_row HSM.out (heap_alloc_new w _)
  have hbV : Below w.heap.size w V := by rw [← hV]; exact (Below.refl _ _).alloc (Nat.le_refl _) _
  have hBV : w.heap.size < V.heap.size := by rw [← hV]; simp
  replace hok := hok.below hbV
  clear hV hLS hfit hv
  have HX := Lib.hid hx
  have hra := HX.out.all
  rw [HLS.out] at hra
  have hinf := HI.out
  rw [HLS.out] at hinf
  clear hx
  go_wp2_with (with_reducible refine wpList_load_mid rfl 34 _ rfl w.heap.size 0 rfl LS _ hra Tryd.underlying34 rfl hinf ?_)
  rw [← HLS.out]
  (with_reducible refine (HC.out.1 _ hok).mono ?_)
  rintro e w1 ⟨v, rfl, rfl, hb1⟩
  rw [HLS.out]
  have hd1 : Below w.heap.size w w1 := hbV.trans (hb1.mono hbV.size)
  have hx1 := HX.out.keep HSM.out hBV hb1
  have HD := Lib.hid hd1
  have HBW := Lib.hid (Nat.lt_of_lt_of_le hBV hb1.size)
  clear hra hinf hb1 hBV hbV hok hd1
  by_cases hE0 : E ≠ 0
  · have HRE := Lib.hid (show R = ([], E) by rw [← HR.out, ← HC.out.2.2]; exact Pl.wput_no (by rw [HC.out.2.2]; exact hE0))
    have hne : ((E : Int) == 0) = false := by rw [beq_eq_false_iff_ne]; omega
    go_wp2_with fail
    go_ret2
    exact ⟨_, rfl, by rw [HRE.out]; rfl, HD.out⟩
  obtain rfl : E = 0 := by omega
  clear hE0
  have HRE := Lib.hid (show R = (Pl.rowB [Lib.itoa m.k, Pl.bodyM m], 0) by rw [← HR.out]; exact Pl.wput_ok HC.out.2.2)
  have HWO := Lib.hid (Pl.wOk_of HC.out.2.2)
  have hkk := HWO.out.k
  have HBS := Lib.hid (Pl.body_short HWO.out HM.out)
  have hsn := hx1.snap
  have hinS := HIS.out
  obtain ⟨SL, hSL⟩ : ∃ L, snL m.snap X = L := ⟨_, rfl⟩
  rw [hSL] at hsn hinS
  have HSL := Lib.hid hSL; clear hSL
  obtain ⟨-, c0, c1, -, -, -, -, -, -, -, -, -, -, -, c2, c3⟩ := hx1
  by_cases h1 : m.k = 1
  · have e1 : (m.k == 1) = true := by rw [h1]; rfl
    have HK1 := Lib.hid h1; clear h1
    go_wp2_with fail
    have hvK : VTab w1 := HV.out.keep HD.out (Nat.le_refl _)
    have HB := Lib.hid (show Pl.bodyM m = m.data from by unfold Pl.bodyM; rw [if_pos (.inl HK1.out)])
    (with_reducible refine (dec_any m.k _ HM.out.k hvK).mono ?_)
    rintro e w8 ⟨v, rfl, rfl, hb8⟩
    have hd8 : Below w.heap.size w w8 := HD.out.trans (hb8.mono HD.out.size)
    have hsum : sumLen [Lib.itoa m.k, m.data] ≤ 17592186044416 := two_sum _ _ _ (by
      have h1 := HBS.out
      rw [HB.out] at h1
      have h2 := (Pl.itoa_len HM.out.k).2
      omega)
    have HS := Lib.hid hsum; clear hsum
    go_wp2_with fail
    (with_reducible refine (row_any _ 2 2 [Lib.itoa m.k, m.data] _ (Rd.new _ [.string ⟨(Lib.itoa m.k).toArray⟩, .string ⟨(m.data).toArray⟩] _) (by omega) HS.out).mono ?_)
    rintro e w9 ⟨v, rfl, rfl, hb9⟩
    go_wp2_with fail
    go_ret2
    exact ⟨_, rfl, by rw [HRE.out, HB.out]; rfl, (hd8.alloc hd8.size _).trans (hb9.mono (by have := hd8.size; simp; omega))⟩
  have e1 : (m.k == 1) = false := beq_eq_false_iff_ne.2 h1
  by_cases h2 : m.k = 2
  · have e2 : (m.k == 2) = true := by rw [h2]; rfl
    have HK2 := Lib.hid h2; clear h2
    go_wp2_with fail
    have hvK : VTab w1 := HV.out.keep HD.out (Nat.le_refl _)
    have HB := Lib.hid (show Pl.bodyM m = m.data from by unfold Pl.bodyM; rw [if_pos (.inr HK2.out)])
    (with_reducible refine (dec_any m.k _ HM.out.k hvK).mono ?_)
    rintro e w8 ⟨v, rfl, rfl, hb8⟩
    have hd8 : Below w.heap.size w w8 := HD.out.trans (hb8.mono HD.out.size)
    have hsum : sumLen [Lib.itoa m.k, m.data] ≤ 17592186044416 := two_sum _ _ _ (by
      have h1 := HBS.out
      rw [HB.out] at h1
      have h2 := (Pl.itoa_len HM.out.k).2
      omega)
    have HS := Lib.hid hsum; clear hsum
    go_wp2_with fail
    (with_reducible refine (row_any _ 2 2 [Lib.itoa m.k, m.data] _ (Rd.new _ [.string ⟨(Lib.itoa m.k).toArray⟩, .string ⟨(m.data).toArray⟩] _) (by omega) HS.out).mono ?_)
    rintro e w9 ⟨v, rfl, rfl, hb9⟩
    go_wp2_with fail
    go_ret2
    exact ⟨_, rfl, by rw [HRE.out, HB.out]; rfl, (hd8.alloc hd8.size _).trans (hb9.mono (by have := hd8.size; simp; omega))⟩
  have e2 : (m.k == 2) = false := beq_eq_false_iff_ne.2 h2
  by_cases h3 : m.k = 3
  · have e3 : (m.k == 3) = true := by rw [h3]; rfl
    have hm0 : Pl.mchk m.snap = 0 := by have := HWO.out.e; unfold Pl.kindE at this; rw [if_neg h1, if_neg h2, if_pos h3] at this; exact this
    have HK3 := Lib.hid h3; clear h3
    obtain ⟨MB, hMB⟩ : ∃ b, (Pl.mbytes m.snap).1 = b := ⟨_, rfl⟩
    have HMB := Lib.hid (And.intro (show Pl.mbytes m.snap = (MB, 0) by rw [← hMB, Pl.mbytes_ok hm0]) hMB); clear hMB hm0
    have hok3 : SnOk w1 m.snap X := HOK.out.below HD.out
    have hv3 : VTab w1 := HV.out.keep HD.out (Nat.le_refl _)
    go_wp2_with (with_reducible refine wpList_load_mid rfl 31 _ rfl w.heap.size 2 rfl SL _ hsn Tryd.underlying31 rfl hinS ?_)
    rw [← HSL.out]
    (with_reducible refine (HC.out.2.1 _ hok3 hv3).mono ?_)
    rintro e w4 ⟨v, rfl, rfl, hb4⟩
    rw [HMB.out.1, HSL.out]
    unfold bytesV
    have c0' : w4.cell? ⟨w.heap.size, 0, none⟩ = some (.int .i64 m.k) := (hb4.cell (p := ⟨w.heap.size, 0, none⟩) HBW.out).trans c0
    have hd4 : Below w.heap.size w w4 := HD.out.trans (hb4.mono HD.out.size)
    clear c0 c1 c2 c3 hsn
    go_wp2_with fail
    have hvK : VTab w4 := HV.out.keep hd4 (Nat.le_refl _)
    have HB := Lib.hid (show Pl.bodyM m = MB from by unfold Pl.bodyM; rw [if_neg (by have := HK3.out; omega), if_pos HK3.out]; exact HMB.out.2)
    (with_reducible refine (dec_any m.k _ HM.out.k hvK).mono ?_)
    rintro e w8 ⟨v, rfl, rfl, hb8⟩
    have hd8 : Below w.heap.size w w8 := hd4.trans (hb8.mono hd4.size)
    have hsum : sumLen [Lib.itoa m.k, MB] ≤ 17592186044416 := two_sum _ _ _ (by
      have h1 := HBS.out
      rw [HB.out] at h1
      have h2 := (Pl.itoa_len HM.out.k).2
      omega)
    have HS := Lib.hid hsum; clear hsum
    go_wp2_with fail
    (with_reducible refine (row_any _ 2 2 [Lib.itoa m.k, MB] _ (Rd.new _ [.string ⟨(Lib.itoa m.k).toArray⟩, .string ⟨(MB).toArray⟩] _) (by omega) HS.out).mono ?_)
    rintro e w9 ⟨v, rfl, rfl, hb9⟩
    go_wp2_with fail
    go_ret2
    exact ⟨_, rfl, by rw [HRE.out, HB.out]; rfl, (hd8.alloc hd8.size _).trans (hb9.mono (by have := hd8.size; simp; omega))⟩
  have e3 : (m.k == 3) = false := beq_eq_false_iff_ne.2 h3
  by_cases h4 : m.k = 4
  · have e4 : (m.k == 4) = true := by rw [h4]; rfl
    have HK4 := Lib.hid h4; clear h4
    have hv3 : VTab w1 := HV.out.keep HD.out (Nat.le_refl _)
    go_wp2_with fail
    (with_reducible refine (dec_any m.n _ HM.out.n hv3).mono ?_)
    rintro e w4 ⟨v, rfl, rfl, hb4⟩
    have c0' : w4.cell? ⟨w.heap.size, 0, none⟩ = some (.int .i64 m.k) := (hb4.cell (p := ⟨w.heap.size, 0, none⟩) HBW.out).trans c0
    have hd4 : Below w.heap.size w w4 := HD.out.trans (hb4.mono HD.out.size)
    clear c0 c1 c2 c3 hsn
    go_wp2_with fail
    have hvK : VTab w4 := HV.out.keep hd4 (Nat.le_refl _)
    have HB := Lib.hid (show Pl.bodyM m = Lib.itoa m.n from by unfold Pl.bodyM; rw [if_neg (by have := HK4.out; omega), if_neg h3, if_pos HK4.out])
    (with_reducible refine (dec_any m.k _ HM.out.k hvK).mono ?_)
    rintro e w8 ⟨v, rfl, rfl, hb8⟩
    have hd8 : Below w.heap.size w w8 := hd4.trans (hb8.mono hd4.size)
    have hsum : sumLen [Lib.itoa m.k, Lib.itoa m.n] ≤ 17592186044416 := two_sum _ _ _ (by
      have h1 := HBS.out
      rw [HB.out] at h1
      have h2 := (Pl.itoa_len HM.out.k).2
      omega)
    have HS := Lib.hid hsum; clear hsum
    go_wp2_with fail
    (with_reducible refine (row_any _ 2 2 [Lib.itoa m.k, Lib.itoa m.n] _ (Rd.new _ [.string ⟨(Lib.itoa m.k).toArray⟩, .string ⟨(Lib.itoa m.n).toArray⟩] _) (by omega) HS.out).mono ?_)
    rintro e w9 ⟨v, rfl, rfl, hb9⟩
    go_wp2_with fail
    go_ret2
    exact ⟨_, rfl, by rw [HRE.out, HB.out]; rfl, (hd8.alloc hd8.size _).trans (hb9.mono (by have := hd8.size; simp; omega))⟩
  have e4 : (m.k == 4) = false := beq_eq_false_iff_ne.2 h4
  by_cases h5 : m.k = 5
  · have e5 : (m.k == 5) = true := by rw [h5]; rfl
    have HK5 := Lib.hid h5; clear h5
    have hv3 : VTab w1 := HV.out.keep HD.out (Nat.le_refl _)
    go_wp2_with fail
    (with_reducible refine (dec_any m.why _ HM.out.why hv3).mono ?_)
    rintro e w4 ⟨v, rfl, rfl, hb4⟩
    have c0' : w4.cell? ⟨w.heap.size, 0, none⟩ = some (.int .i64 m.k) := (hb4.cell (p := ⟨w.heap.size, 0, none⟩) HBW.out).trans c0
    have hd4 : Below w.heap.size w w4 := HD.out.trans (hb4.mono HD.out.size)
    clear c0 c1 c2 c3 hsn
    go_wp2_with fail
    have hvK : VTab w4 := HV.out.keep hd4 (Nat.le_refl _)
    have HB := Lib.hid (show Pl.bodyM m = Lib.itoa m.why from by unfold Pl.bodyM; rw [if_neg (by have := HK5.out; omega), if_neg h3, if_neg h4, if_pos HK5.out])
    (with_reducible refine (dec_any m.k _ HM.out.k hvK).mono ?_)
    rintro e w8 ⟨v, rfl, rfl, hb8⟩
    have hd8 : Below w.heap.size w w8 := hd4.trans (hb8.mono hd4.size)
    have hsum : sumLen [Lib.itoa m.k, Lib.itoa m.why] ≤ 17592186044416 := two_sum _ _ _ (by
      have h1 := HBS.out
      rw [HB.out] at h1
      have h2 := (Pl.itoa_len HM.out.k).2
      omega)
    have HS := Lib.hid hsum; clear hsum
    go_wp2_with fail
    (with_reducible refine (row_any _ 2 2 [Lib.itoa m.k, Lib.itoa m.why] _ (Rd.new _ [.string ⟨(Lib.itoa m.k).toArray⟩, .string ⟨(Lib.itoa m.why).toArray⟩] _) (by omega) HS.out).mono ?_)
    rintro e w9 ⟨v, rfl, rfl, hb9⟩
    go_wp2_with fail
    go_ret2
    exact ⟨_, rfl, by rw [HRE.out, HB.out]; rfl, (hd8.alloc hd8.size _).trans (hb9.mono (by have := hd8.size; simp; omega))⟩
  have e5 : (m.k == 5) = false := beq_eq_false_iff_ne.2 h5
  go_wp2_with fail
  have hvK : VTab w1 := HV.out.keep HD.out (Nat.le_refl _)
  have HB := Lib.hid (show Pl.bodyM m = ([] : List UInt8) from by unfold Pl.bodyM; rw [if_neg (by omega), if_neg h3, if_neg h4, if_neg h5])
  (with_reducible refine (dec_any m.k _ HM.out.k hvK).mono ?_)
  rintro e w8 ⟨v, rfl, rfl, hb8⟩
  have hd8 : Below w.heap.size w w8 := HD.out.trans (hb8.mono HD.out.size)
  have hsum : sumLen [Lib.itoa m.k, ([] : List UInt8)] ≤ 17592186044416 := two_sum _ _ _ (by
    have h1 := HBS.out
    rw [HB.out] at h1
    have h2 := (Pl.itoa_len HM.out.k).2
    omega)
  have HS := Lib.hid hsum; clear hsum
  go_wp2_with fail
  (with_reducible refine (row_any _ 2 2 [Lib.itoa m.k, ([] : List UInt8)] _ (Rd.new _ [.string ⟨(Lib.itoa m.k).toArray⟩, .string ⟨(([] : List UInt8)).toArray⟩] _) (by omega) HS.out).mono ?_)
  rintro e w9 ⟨v, rfl, rfl, hb9⟩
  go_wp2_with fail
  go_ret2
  exact ⟨_, rfl, by rw [HRE.out, HB.out]; rfl, (hd8.alloc hd8.size _).trans (hb9.mono (by have := hd8.size; simp; omega))⟩
end Go.Proofs.YtadoplgmeoghmaaDoor
namespace Go.Proofs.YtadoplgmeoghmaaDoor
open Go.RowKit
set_option linter.unusedVariables false
set_option linter.unusedSimpArgs false
attribute [local go_sem] ba_get ba_cut ba_add
def msg6 : Pl.Msg := ⟨6, [], Pl.zeroS, 0, 0⟩
theorem chk6 : Pl.wchk msg6 = 0 := by decide +kernel
theorem put6 : Pl.wput msg6 = (Pl.rowB [[54], []], 0) := by
  rw [Pl.wput_ok chk6]
  have h : Lib.itoa msg6.k = [54] := by decide +kernel
  rw [h]; rfl
theorem fit6 : MgFit msg6 := ⟨by decide, fit_zero⟩
theorem mok6 : Pl.MOk msg6 := ⟨rfl, by decide, i64_mk (by decide) (by decide), i64_mk (by decide) (by decide), i64_mk (by decide) (by decide)⟩
theorem wpList_build_m6 {L : List Value} (hL : mgL msg6 cx0 = L) {ops : Array Oper} {rest : List Oper} {op : Oper} {a : Act} {w : World} {Q : Exit → Act → World → Prop} (hgd : op.guard = none) (ho : op.op = .build 34 #[(0, .const (.int .i64 6))])
    (h : wpList Tryd.prog ops Q rest (a.put op.dst (.agg L.toArray)) w) : wpList Tryd.prog ops Q (op :: rest) a w :=
  wpList_plain hgd fun _ hK => by
    have hb : (Instr.build 34 #[(0, .int .i64 6)]).run Tryd.prog w = .ok (.agg (mgL msg6 cx0).toArray) w := run_build w 34 _ _ (by kernel_rfl)
    unfold Oper.wp execOp
    simp only [ho, List.map_toArray, List.map_cons, List.map_nil, Act.eval, Sem.run_bind, hb, Result.andThen_ok, Sem.run_pure]
    rw [hL]
    exact hK _ _ h
set_option maxRecDepth 100000 in
set_option maxHeartbeats 4000000 in
theorem awake44_any (w : World) (hv : VTab w) : Calls Tryd.prog 5 #[] w (RetB (fun v _ => v = .bool true) w) := by
  obtain ⟨L6, hL6⟩ : ∃ L, mgL msg6 cx0 = L := ⟨_, rfl⟩
  go_enter Tryd.func5, Tryd.ntmps5
  go_wp2_with (with_reducible refine wpList_build_m6 hL6 rfl rfl ?_)
  rw [← hL6]
  (with_reducible refine (wput_any msg6 cx0 _ (ok_zero _) fit6 mok6 hv).mono ?_)
  rintro e w1 ⟨v, rfl, rfl, hb1⟩
  rw [put6, hL6]
  have hrow := fun W A (h : Rd W 1 A 2 (strs [[54], []])) => row_any A 2 2 [[54], []] W h (by omega) (by simp [sumLen])
  obtain ⟨R, hR⟩ : ∃ R, Pl.rowB [[54], []] = R := ⟨_, rfl⟩
  rw [hR] at hrow ⊢
  have HH := Lib.hid hrow
  unfold bytesV
  clear hrow
  go_wp2_with fail
  (with_reducible refine (HH.out _ _ (Rd.new _ [.string ⟨#[54]⟩, .string ⟨#[]⟩] _)).mono ?_)
  rintro e w2 ⟨v, rfl, rfl, hb2⟩
  go_wp2_with fail
  go_ret
  exact ⟨_, rfl, rfl, (hb1.alloc hb1.size _).trans (hb2.mono (by have := hb1.size; simp; omega))⟩
end Go.Proofs.YtadoplgmeoghmaaDoor
