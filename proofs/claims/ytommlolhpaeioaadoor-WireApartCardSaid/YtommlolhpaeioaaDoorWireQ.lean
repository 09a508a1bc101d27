/- The walk of wire's Put. -/
import Derived.Test.YtommlolhpaeioaaDoorWireK
namespace Go.Proofs.YtommlolhpaeioaaDoor
open Go.RowKit
set_option linter.unusedVariables false
set_option linter.unusedSimpArgs false
attribute [local go_sem] ba_get ba_cut ba_add
theorem two_sum (a b : List UInt8) (n : Nat) (h : a.length + b.length + 2 ≤ n) : sumLen [a, b] ≤ n := by simp only [sumLen]; omega
set_option maxRecDepth 100000 in
set_option maxHeartbeats 8000000 in
theorem wput_any (m : Pl.Msg) (X : Cx) (w : World) (hok : SnOk w m.snap X) (hfit : MgFit m) (hm : Pl.MOk m) (hv : VTab w) : Calls Tryd.prog 14 #[.agg (mgL m X).toArray] w (RetB (fun v _ => v = bytesV (Pl.wput m)) w) := by
  obtain ⟨R, hR⟩ : ∃ R, Pl.wput m = R := ⟨_, rfl⟩
  rw [hR]
  have HR := Lib.hid hR; clear hR
  have HM := Lib.hid hm
  have HSM := Lib.hid hok.sum
  have HOK := Lib.hid hok
  have HV := Lib.hid hv
  have HI := Lib.hid (info_mg hok)
  have HIS := Lib.hid (info_sn hok)
  have hck := fun W h => wcheck_any m X W h hfit
  have hmb := fun W h => mbytes_any m.snap X W h hfit.snap hm.clk
  obtain ⟨E, hE⟩ : ∃ E, Pl.wchk m = E := ⟨_, rfl⟩
  rw [hE] at hck
  have HC := Lib.hid (And.intro hck (And.intro hmb hE)); clear hck hmb hE hm
  obtain ⟨LS, hLS⟩ : ∃ L, mgL m X = L := ⟨_, rfl⟩
  rw [hLS]
  have HLS := Lib.hid hLS
  go_enter Tryd.func14, Tryd.ntmps14
  go_upto_region 1 with (fail)
  generalize hV : w.alloc _ = V
  have hx : Mg V w.heap.size m X := by rw [← hV, ← hLS]; exact mg_row HSM.out (heap_alloc_new w _)
  have hbV : Below w.heap.size w V := by rw [← hV]; exact (Below.refl _ _).alloc (Nat.le_refl _) _
  have hBV : w.heap.size < V.heap.size := by rw [← hV]; simp
  replace hok := hok.below hbV
  clear hV hLS hfit hv
  have HX := Lib.hid hx
  have hra := HX.out.all
  rw [HLS.out] at hra
  have hinf := HI.out
  rw [HLS.out] at hinf
  clear hx
  go_wp2_with (with_reducible refine wpList_load_mid rfl 31 _ rfl w.heap.size 0 rfl LS _ hra Tryd.underlying31 rfl hinf ?_)
  rw [← HLS.out]
  (with_reducible refine (HC.out.1 _ hok).mono ?_)
  rintro e w1 ⟨v, rfl, rfl, hb1⟩
  rw [HLS.out]
  have hd1 : Below w.heap.size w w1 := hbV.trans (hb1.mono hbV.size)
  have hx1 := HX.out.keep HSM.out hBV hb1
  have HD := Lib.hid hd1
  have HBW := Lib.hid (Nat.lt_of_lt_of_le hBV hb1.size)
  clear hra hinf hb1 hBV hbV hok hd1
  by_cases hE0 : E ≠ 0
  · have HRE := Lib.hid (show R = ([], E) by rw [← HR.out, ← HC.out.2.2]; exact Pl.wput_no (by rw [HC.out.2.2]; exact hE0))
    have hne : ((E : Int) == 0) = false := by rw [beq_eq_false_iff_ne]; omega
    go_wp2_with fail
    go_ret2
    exact ⟨_, rfl, by rw [HRE.out]; rfl, HD.out⟩
  obtain rfl : E = 0 := by omega
  clear hE0
  have HRE := Lib.hid (show R = (Pl.rowB [Lib.itoa m.k, Pl.bodyM m], 0) by rw [← HR.out]; exact Pl.wput_ok HC.out.2.2)
  have HWO := Lib.hid (Pl.wOk_of HC.out.2.2)
  have hkk := HWO.out.k
  have HBS := Lib.hid (Pl.body_short HWO.out HM.out)
  have hsn := hx1.snap
  have hinS := HIS.out
  obtain ⟨SL, hSL⟩ : ∃ L, snL m.snap X = L := ⟨_, rfl⟩
  rw [hSL] at hsn hinS
  have HSL := Lib.hid hSL; clear hSL
  obtain ⟨-, c0, c1, -, -, -, -, -, -, -, -, -, -, -, c2, c3⟩ := hx1
  by_cases h1 : m.k = 1
  · have e1 : (m.k == 1) = true := by rw [h1]; rfl
    have HK1 := Lib.hid h1; clear h1
    go_wp2_with fail
    have hvK : VTab w1 := HV.out.keep HD.out (Nat.le_refl _)
    have HB := Lib.hid (show Pl.bodyM m = m.data from by unfold Pl.bodyM; rw [if_pos (.inl HK1.out)])
    (with_reducible refine (dec_any m.k _ HM.out.k hvK).mono ?_)
    rintro e w8 ⟨v, rfl, rfl, hb8⟩
    have hd8 : Below w.heap.size w w8 := HD.out.trans (hb8.mono HD.out.size)
    have hsum : sumLen [Lib.itoa m.k, m.data] ≤ 17592186044416 := two_sum _ _ _ (by
      have h1 := HBS.out
      rw [HB.out] at h1
      have h2 := (Pl.itoa_len HM.out.k).2
      omega)
    have HS := Lib.hid hsum; clear hsum
    go_wp2_with fail
    (with_reducible refine (row_any _ 2 2 [Lib.itoa m.k, m.data] _ (Rd.new _ [.string ⟨(Lib.itoa m.k).toArray⟩, .string ⟨(m.data).toArray⟩] _) (by omega) HS.out).mono ?_)
    rintro e w9 ⟨v, rfl, rfl, hb9⟩
    go_wp2_with fail
    go_ret2
    exact ⟨_, rfl, by rw [HRE.out, HB.out]; rfl, (hd8.alloc hd8.size _).trans (hb9.mono (by have := hd8.size; simp; omega))⟩
  have e1 : (m.k == 1) = false := beq_eq_false_iff_ne.2 h1
  by_cases h2 : m.k = 2
  · have e2 : (m.k == 2) = true := by rw [h2]; rfl
    have HK2 := Lib.hid h2; clear h2
    go_wp2_with fail
    have hvK : VTab w1 := HV.out.keep HD.out (Nat.le_refl _)
    have HB := Lib.hid (show Pl.bodyM m = m.data from by unfold Pl.bodyM; rw [if_pos (.inr HK2.out)])
    (with_reducible refine (dec_any m.k _ HM.out.k hvK).mono ?_)
    rintro e w8 ⟨v, rfl, rfl, hb8⟩
    have hd8 : Below w.heap.size w w8 := HD.out.trans (hb8.mono HD.out.size)
    have hsum : sumLen [Lib.itoa m.k, m.data] ≤ 17592186044416 := two_sum _ _ _ (by
      have h1 := HBS.out
      rw [HB.out] at h1
      have h2 := (Pl.itoa_len HM.out.k).2
      omega)
    have HS := Lib.hid hsum; clear hsum
    go_wp2_with fail
    (with_reducible refine (row_any _ 2 2 [Lib.itoa m.k, m.data] _ (Rd.new _ [.string ⟨(Lib.itoa m.k).toArray⟩, .string ⟨(m.data).toArray⟩] _) (by omega) HS.out).mono ?_)
    rintro e w9 ⟨v, rfl, rfl, hb9⟩
    go_wp2_with fail
    go_ret2
    exact ⟨_, rfl, by rw [HRE.out, HB.out]; rfl, (hd8.alloc hd8.size _).trans (hb9.mono (by have := hd8.size; simp; omega))⟩
  have e2 : (m.k == 2) = false := beq_eq_false_iff_ne.2 h2
  by_cases h3 : m.k = 3
  · have e3 : (m.k == 3) = true := by rw [h3]; rfl
    have hm0 : Pl.mchk m.snap = 0 := by have := HWO.out.e; unfold Pl.kindE at this; rw [if_neg h1, if_neg h2, if_pos h3] at this; exact this
    have HK3 := Lib.hid h3; clear h3
    obtain ⟨MB, hMB⟩ : ∃ b, (Pl.mbytes m.snap).1 = b := ⟨_, rfl⟩
    have HMB := Lib.hid (And.intro (show Pl.mbytes m.snap = (MB, 0) by rw [← hMB, Pl.mbytes_ok hm0]) hMB); clear hMB hm0
    have hok3 : SnOk w1 m.snap X := HOK.out.below HD.out
    have hv3 : VTab w1 := HV.out.keep HD.out (Nat.le_refl _)
    go_wp2_with (with_reducible refine wpList_load_mid rfl 28 _ rfl w.heap.size 2 rfl SL _ hsn Tryd.underlying28 rfl hinS ?_)
    rw [← HSL.out]
    (with_reducible refine (HC.out.2.1 _ hok3 hv3).mono ?_)
    rintro e w4 ⟨v, rfl, rfl, hb4⟩
    rw [HMB.out.1, HSL.out]
    unfold bytesV
    have c0' : w4.cell? ⟨w.heap.size, 0, none⟩ = some (.int .i64 m.k) := (hb4.cell (p := ⟨w.heap.size, 0, none⟩) HBW.out).trans c0
    have hd4 : Below w.heap.size w w4 := HD.out.trans (hb4.mono HD.out.size)
    clear c0 c1 c2 c3 hsn
    go_wp2_with fail
    have hvK : VTab w4 := HV.out.keep hd4 (Nat.le_refl _)
    have HB := Lib.hid (show Pl.bodyM m = MB from by unfold Pl.bodyM; rw [if_neg (by have := HK3.out; omega), if_pos HK3.out]; exact HMB.out.2)
    (with_reducible refine (dec_any m.k _ HM.out.k hvK).mono ?_)
    rintro e w8 ⟨v, rfl, rfl, hb8⟩
    have hd8 : Below w.heap.size w w8 := hd4.trans (hb8.mono hd4.size)
    have hsum : sumLen [Lib.itoa m.k, MB] ≤ 17592186044416 := two_sum _ _ _ (by
      have h1 := HBS.out
      rw [HB.out] at h1
      have h2 := (Pl.itoa_len HM.out.k).2
      omega)
    have HS := Lib.hid hsum; clear hsum
    go_wp2_with fail
    (with_reducible refine (row_any _ 2 2 [Lib.itoa m.k, MB] _ (Rd.new _ [.string ⟨(Lib.itoa m.k).toArray⟩, .string ⟨(MB).toArray⟩] _) (by omega) HS.out).mono ?_)
    rintro e w9 ⟨v, rfl, rfl, hb9⟩
    go_wp2_with fail
    go_ret2
    exact ⟨_, rfl, by rw [HRE.out, HB.out]; rfl, (hd8.alloc hd8.size _).trans (hb9.mono (by have := hd8.size; simp; omega))⟩
  have e3 : (m.k == 3) = false := beq_eq_false_iff_ne.2 h3
  by_cases h4 : m.k = 4
  · have e4 : (m.k == 4) = true := by rw [h4]; rfl
    have HK4 := Lib.hid h4; clear h4
    have hv3 : VTab w1 := HV.out.keep HD.out (Nat.le_refl _)
    go_wp2_with fail
    (with_reducible refine (dec_any m.n _ HM.out.n hv3).mono ?_)
    rintro e w4 ⟨v, rfl, rfl, hb4⟩
    have c0' : w4.cell? ⟨w.heap.size, 0, none⟩ = some (.int .i64 m.k) := (hb4.cell (p := ⟨w.heap.size, 0, none⟩) HBW.out).trans c0
    have hd4 : Below w.heap.size w w4 := HD.out.trans (hb4.mono HD.out.size)
    clear c0 c1 c2 c3 hsn
    go_wp2_with fail
    have hvK : VTab w4 := HV.out.keep hd4 (Nat.le_refl _)
    have HB := Lib.hid (show Pl.bodyM m = Lib.itoa m.n from by unfold Pl.bodyM; rw [if_neg (by have := HK4.out; omega), if_neg h3, if_pos HK4.out])
    (with_reducible refine (dec_any m.k _ HM.out.k hvK).mono ?_)
    rintro e w8 ⟨v, rfl, rfl, hb8⟩
    have hd8 : Below w.heap.size w w8 := hd4.trans (hb8.mono hd4.size)
    have hsum : sumLen [Lib.itoa m.k, Lib.itoa m.n] ≤ 17592186044416 := two_sum _ _ _ (by
      have h1 := HBS.out
      rw [HB.out] at h1
      have h2 := (Pl.itoa_len HM.out.k).2
      omega)
    have HS := Lib.hid hsum; clear hsum
    go_wp2_with fail
    (with_reducible refine (row_any _ 2 2 [Lib.itoa m.k, Lib.itoa m.n] _ (Rd.new _ [.string ⟨(Lib.itoa m.k).toArray⟩, .string ⟨(Lib.itoa m.n).toArray⟩] _) (by omega) HS.out).mono ?_)
    rintro e w9 ⟨v, rfl, rfl, hb9⟩
    go_wp2_with fail
    go_ret2
    exact ⟨_, rfl, by rw [HRE.out, HB.out]; rfl, (hd8.alloc hd8.size _).trans (hb9.mono (by have := hd8.size; simp; omega))⟩
  have e4 : (m.k == 4) = false := beq_eq_false_iff_ne.2 h4
  by_cases h5 : m.k = 5
  · have e5 : (m.k == 5) = true := by rw [h5]; rfl
    have HK5 := Lib.hid h5; clear h5
    have hv3 : VTab w1 := HV.out.keep HD.out (Nat.le_refl _)
    go_wp2_with fail
    (with_reducible refine (dec_any m.why _ HM.out.why hv3).mono ?_)
    rintro e w4 ⟨v, rfl, rfl, hb4⟩
    have c0' : w4.cell? ⟨w.heap.size, 0, none⟩ = some (.int .i64 m.k) := (hb4.cell (p := ⟨w.heap.size, 0, none⟩) HBW.out).trans c0
    have hd4 : Below w.heap.size w w4 := HD.out.trans (hb4.mono HD.out.size)
    clear c0 c1 c2 c3 hsn
    go_wp2_with fail
    have hvK : VTab w4 := HV.out.keep hd4 (Nat.le_refl _)
    have HB := Lib.hid (show Pl.bodyM m = Lib.itoa m.why from by unfold Pl.bodyM; rw [if_neg (by have := HK5.out; omega), if_neg h3, if_neg h4, if_pos HK5.out])
    (with_reducible refine (dec_any m.k _ HM.out.k hvK).mono ?_)
    rintro e w8 ⟨v, rfl, rfl, hb8⟩
    have hd8 : Below w.heap.size w w8 := hd4.trans (hb8.mono hd4.size)
    have hsum : sumLen [Lib.itoa m.k, Lib.itoa m.why] ≤ 17592186044416 := two_sum _ _ _ (by
      have h1 := HBS.out
      rw [HB.out] at h1
      have h2 := (Pl.itoa_len HM.out.k).2
      omega)
    have HS := Lib.hid hsum; clear hsum
    go_wp2_with fail
    (with_reducible refine (row_any _ 2 2 [Lib.itoa m.k, Lib.itoa m.why] _ (Rd.new _ [.string ⟨(Lib.itoa m.k).toArray⟩, .string ⟨(Lib.itoa m.why).toArray⟩] _) (by omega) HS.out).mono ?_)
    rintro e w9 ⟨v, rfl, rfl, hb9⟩
    go_wp2_with fail
    go_ret2
    exact ⟨_, rfl, by rw [HRE.out, HB.out]; rfl, (hd8.alloc hd8.size _).trans (hb9.mono (by have := hd8.size; simp; omega))⟩
  have e5 : (m.k == 5) = false := beq_eq_false_iff_ne.2 h5
  go_wp2_with fail
  have hvK : VTab w1 := HV.out.keep HD.out (Nat.le_refl _)
  have HB := Lib.hid (show Pl.bodyM m = ([] : List UInt8) from by unfold Pl.bodyM; rw [if_neg (by omega), if_neg h3, if_neg h4, if_neg h5])
  (with_reducible refine (dec_any m.k _ HM.out.k hvK).mono ?_)
  rintro e w8 ⟨v, rfl, rfl, hb8⟩
  have hd8 : Below w.heap.size w w8 := HD.out.trans (hb8.mono HD.out.size)
  have hsum : sumLen [Lib.itoa m.k, ([] : List UInt8)] ≤ 17592186044416 := two_sum _ _ _ (by
    have h1 := HBS.out
    rw [HB.out] at h1
    have h2 := (Pl.itoa_len HM.out.k).2
    omega)
  have HS := Lib.hid hsum; clear hsum
  go_wp2_with fail
  (with_reducible refine (row_any _ 2 2 [Lib.itoa m.k, ([] : List UInt8)] _ (Rd.new _ [.string ⟨(Lib.itoa m.k).toArray⟩, .string ⟨(([] : List UInt8)).toArray⟩] _) (by omega) HS.out).mono ?_)
  rintro e w9 ⟨v, rfl, rfl, hb9⟩
  go_wp2_with fail
  go_ret2
  exact ⟨_, rfl, by rw [HRE.out, HB.out]; rfl, (hd8.alloc hd8.size _).trans (hb9.mono (by have := hd8.size; simp; omega))⟩
end Go.Proofs.YtommlolhpaeioaaDoor
