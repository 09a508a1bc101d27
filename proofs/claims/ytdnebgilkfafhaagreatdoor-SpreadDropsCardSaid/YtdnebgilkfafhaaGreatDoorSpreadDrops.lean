/- SpreadDrops holds: what is dropped isn't there any more, neither read nor voted nor named; all others are, as they were. No condition. -/
import Derived.Test.YtdnebgilkfafhaaGreatDoorLaid
import Derived.Test.YtdnebgilkfafhaaGreatDoorTie
import Derived.Test.YtdnebgilkfafhaaGreatDoorCards
import Derived.Test.YtdnebgilkfafhaaGreatDoorSpMp
import Derived.Test.YtdnebgilkfafhaaGreatDoorLaidV
import Derived.Test.YtdnebgilkfafhaaGreatDoorOpen
import Derived.Deep.DeepHandedRow
import Derived.Deep.DeepWitnessRowRef
import Derived.Lib.LaidTab
namespace Go.Proofs.YtdnebgilkfafhaaGreatDoor
open Go.ChangeShapes Go.WideShapes Go.ChangeAt Go.RowKit
set_option linter.unusedVariables false
set_option linter.unusedSimpArgs false
attribute [local go_sem] ba_get ba_cut ba_add
def byt (x : List UInt8) : List UInt8 := [98, 121, 116, 101, 115, 32, 111, 102, 32] ++ x
set_option maxRecDepth 100000 in
set_option maxHeartbeats 8000000 in
theorem spreadDrops_walk (A : Option Addr) (n c : Nat) (l : List (List UInt8)) (nm : List UInt8) (w : World) (hr : Rd w 1 A n (strs l)) (hnl : n ≤ 140737488355328) (hls : ∀ s ∈ l, s.length ≤ 140737488355328) (hAc : A = none → c = 0) (hnm : nm.length ≤ 140737488355328) (hv : VNum w ∧ VHash w) :
    Calls Tryz.prog 8 #[.slice A n c, .string ⟨nm.toArray⟩] w (RetB (fun v _ => v = .bool true) w) := by
  obtain ⟨N, hN⟩ : ∃ N, w.heap.size = N := ⟨_, rfl⟩
  have HV := Lib.hid (And.intro (VSp.mk hv.1 hv.2) hr)
  have hln : l.length = n := by have := hr.len; simpa [strs] using this
  clear hv hr
  go_enter Tryz.func8, Tryz.ntmps8
  go_upto_region 3 with (with_reducible refine (salive_any w HV.out.1).mono ?_)
  rintro _ w1 ⟨v, rfl, rfl, hb1⟩
  have hb1N : Below N w w1 := by rw [← hN]; exact hb1
  have HB := Lib.hid hb1N
  clear hb1 hb1N
  by_cases hB4 : 8 < n
  · have hB' : decide ((8 : Int) < (n : Int)) = true := by simp; omega
    have hB'' : decide (8 < n) = true := decide_eq_true hB4
    clear hB4
    go_wp2_with fail
    go_ret
    exact ⟨_, rfl, rfl, by rw [hN]; exact HB.out⟩
  have hB' : decide ((8 : Int) < (n : Int)) = false := by simp; omega
  have hB'' : decide (8 < n) = false := decide_eq_false hB4
  by_cases hC : nm.length < 1
  · have hC' : decide ((nm.length : Int) < 1) = true := by simp; omega
    clear hB4 hC
    go_wp2_with fail
    go_ret
    exact ⟨_, rfl, rfl, by rw [hN]; exact HB.out⟩
  have hC' : decide ((nm.length : Int) < 1) = false := by simp; omega
  by_cases hD : 100 < nm.length
  · have hD' : decide ((100 : Int) < (nm.length : Int)) = true := by simp; omega
    clear hB4 hC hD
    go_wp2_with fail
    go_ret
    exact ⟨_, rfl, rfl, by rw [hN]; exact HB.out⟩
  have hD' : decide ((100 : Int) < (nm.length : Int)) = false := by simp; omega
  have hgn : Pl.okName nm = true := by unfold Pl.okName; simp; omega
  have hn8 : n ≤ 8 := by omega
  clear hB4 hC hD
  go_upto_region 6 with (with_reducible refine (fresh_any w1).mono ?_)
  rintro _ w3 ⟨v, rfl, rfl, hb3⟩
  obtain ⟨L0, hL0⟩ : ∃ L, stoL (fun _ => Pl.noSh) (fun _ => zx) (-1) = L := ⟨_, rfl⟩
  have hl0 : L0.length = 11 := by rw [← hL0]; rfl
  have ho0 : ∀ v ∈ L0, v.oneCell' = true := by rw [← hL0]; exact stoL_one _ _ _
  rw [hL0]
  have hbt := box_there w3 (L := L0) hl0
  have hbi := info_stoA (L := L0) hl0
  go_upto_region 7 with first
    | with_reducible refine wpList_store_mid rfl 33 _ _ rfl w3.heap.size 0 L0.toArray rfl rfl hbt hbi (all_oneCell_toArray ho0) ?_
  obtain ⟨W4, hW⟩ : ∃ W', boxW w3 L0 = W' := ⟨_, rfl⟩
  have hat := box_at w3 (L := L0) hl0
  have hbl := box_below w3 L0
  rw [hW] at hat hbl
  unfold boxW at hW
  obtain ⟨T5, hT⟩ : ∃ T', w3.heap.size = T' := ⟨_, rfl⟩
  rw [hT] at hW hat hbl
  simp only [hT]
  simp only [hW]
  have hge_T5 : w3.heap.size ≤ T5 := Nat.le_of_eq hT
  have hle_T5 : T5 ≤ w3.heap.size := Nat.le_of_eq hT.symm
  clear hW hT hbt hbi
  rw [← hL0, stoL_ext (S' := toS fresh0) _ _ (fun i hi => (fresh_at hi).symm)] at hat
  have h7 : StBx T5 (toS fresh0) (fun _ => zx) (-1) W4 := hat
  have hs1 := HB.out.size
  have hs3 := hb3.size
  have hs4 := blk_lt hat
  have hb4 : Below N w W4 := (HB.out.trans (hb3.mono (by omega))).trans (hbl.mono (by omega))
  have hst4 : StF N W4 (toS fresh0) (fun _ => zx) := (StF.fresh N W4).ext fun i hi => (fresh_at hi).symm
  have HB4 := Lib.hid (And.intro h7 (And.intro hst4 hb4))
  have HF0 := Lib.hid fresh_hn
  have HW0 : Hid (Pl.Wr fresh0 (l.take 0) byt) := Lib.hid fun x i hi => by rw [show fresh0.sh.getD i Pl.noSh = Pl.noSh from fresh_at hi, if_neg (by simp)]; rfl
  have hNT : N ≤ T5 := by omega
  clear h7 hat hbl hb3 hL0 hl0 ho0 HB hb4 hst4
  go_loopw [46] (fun iv wr => ∃ (j : Nat) (st : Pl.Store) (X : Nat → ShX), j ≤ n ∧ iv = .int .i64 (j : Int) ∧ Hid (StBx T5 (toS st) X (-1) wr ∧ StF N wr (toS st) X ∧ Below N w wr) ∧ Hid (Hn st j) ∧ Hid (Pl.Wr st (l.take j) byt) ∧ Hid (∀ x ∈ l.take j, Pl.okName x = true)) (fun iv _ => n - (intOf iv).toNat)
  case atStart => exact ⟨0, fresh0, _, by omega, rfl, HB4, HF0, HW0, Lib.hid (by simp)⟩
  case round =>
    obtain ⟨j, st, X, hj, rfl, HS, HN, HW, HK⟩ := hrel
    clear HB4 HF0 HW0
    have hsr := HS.out.2.2.size
    have h7lt : T5 < wr.heap.size := blk_lt HS.out.1
    by_cases hjn : j < n
    · have hjl : j < l.length := by omega
      obtain ⟨b, off, rfl, hlt, hc⟩ := (HV.out.2.below (by rw [hN]; exact HS.out.2.2)).all (by omega)
      have hc1 := hc j (by simpa [strs] using hjl)
      rw [strs_get l j hjl] at hc1
      have hsl := hls _ (List.getElem_mem hjl)
      have htk : l.take (j + 1) = l.take j ++ [l[j]] := List.take_succ_eq_append_getElem hjl
      obtain ⟨s, hs⟩ : ∃ s, l[j] = s := ⟨_, rfl⟩
      rw [hs] at hc1 hsl htk
      have HTK := Lib.hid htk
      clear hc hlt hs htk
      by_cases h1 : s.length < 1
      · have h1' : decide ((s.length : Int) < 1) = true := by simp; omega
        clear h1
        go_wp2_with fail
        go_ret
        exact ⟨_, rfl, rfl, by rw [hN]; exact HS.out.2.2⟩
      have h1' : decide ((s.length : Int) < 1) = false := by simp; omega
      by_cases h2 : 100 < s.length
      · have h2' : decide ((100 : Int) < (s.length : Int)) = true := by simp; omega
        clear h1 h2
        go_wp2_with fail
        go_ret
        exact ⟨_, rfl, rfl, by rw [hN]; exact HS.out.2.2⟩
      have h2' : decide ((100 : Int) < (s.length : Int)) = false := by simp; omega
      have hgs : Pl.okName s = true := by unfold Pl.okName; simp; omega
      have hbs : (byt s).length ≤ 65536 := by unfold byt; rw [List.length_append]; simp only [List.length_cons, List.length_nil]; omega
      have hs100 : s.length ≤ 100 := by omega
      have hpo := write_st (d := byt s) HN.out (by omega) HS.out.2.1.ok hgs hbs (HV.out.1.below (by rw [hN]; exact HS.out.2.2))
      have hrn := HS.out.1.range
      have hin := info_stoL (L := stoL (toS st) X (-1)) rfl
      obtain ⟨L5, hL5⟩ : ∃ L, stoL (toS st) X (-1) = L := ⟨_, rfl⟩
      rw [hL5] at hpo hrn hin
      have hn' := HN.out.put (D := Pl.partOf s (byt s)) hgs (fun i hi => Pl.part_len (Pl.okName_len hgs).2 hbs i hi)
      have hw' := HW.out.put HN.out.hon hgs hbs
      rw [← HTK.out] at hw'
      have hk' : ∀ x ∈ l.take (j + 1), Pl.okName x = true := fun x hx => by
        rw [HTK.out] at hx
        rcases List.mem_append.1 hx with hx | hx
        · exact HK.out x hx
        · rw [List.mem_singleton.1 hx]; exact hgs
      obtain ⟨st', hst'⟩ : ∃ s', (Pl.putAll st s (Pl.partOf s (byt s))).1 = s' := ⟨_, rfl⟩
      rw [hst'] at hpo hn' hw'
      simp only [byt, List.cons_append, List.nil_append] at hpo
      have HP := Lib.hid (And.intro hpo (And.intro hn' (And.intro hw' hk')))
      clear hpo hn' hw' hk' hst' hL5 h1 h2 hbs hgs
      go_upto_region 12 with first
        | with_reducible refine wpList_load_mid rfl 33 _ rfl T5 0 rfl L5 _ hrn Tryz.underlying33 rfl hin ?_
        | (with_reducible refine HP.out.1.mono ?_)
      rintro _ w5 ⟨v, rfl, ⟨X5, rfl, hst5⟩, hb5⟩
      clear hrn hin
      obtain ⟨L6, hL6⟩ : ∃ L, stoL (toS st') X5 (-1) = L := ⟨_, rfl⟩
      have hl6 : L6.length = 11 := by rw [← hL6]; rfl
      have ho6 : ∀ v ∈ L6, v.oneCell' = true := by rw [← hL6]; exact stoL_one _ _ _
      rw [hL6]
      have hbt := box_there w5 (L := L6) hl6
      have hbi := info_stoA (L := L6) hl6
      go_upto_region 12 with first
        | with_reducible refine wpList_store_mid rfl 33 _ _ rfl w5.heap.size 0 L6.toArray rfl rfl hbt hbi (all_oneCell_toArray ho6) ?_
      obtain ⟨W6, hW⟩ : ∃ W', boxW w5 L6 = W' := ⟨_, rfl⟩
      have hat := box_at w5 (L := L6) hl6
      have hbl := box_below w5 L6
      rw [hW] at hat hbl
      unfold boxW at hW
      obtain ⟨TA, hT⟩ : ∃ T', w5.heap.size = T' := ⟨_, rfl⟩
      rw [hT] at hW hat hbl
      simp only [hT]
      simp only [hW]
      have hge_TA : w5.heap.size ≤ TA := Nat.le_of_eq hT
      have hle_TA : TA ≤ w5.heap.size := Nat.le_of_eq hT.symm
      clear hW hT hbt hbi
      have hs5 := hb5.size
      have hb6 : Below wr.heap.size wr W6 := hb5.trans (hbl.mono (by omega))
      have h7 := HS.out.1.keep hb6
      have hst6 : StF N W6 (toS st') X5 := (hst5.kpt (KpT.below (hbl.mono hge_TA))).weak (by omega)
      have hbw : Below N w W6 := HS.out.2.2.trans (hb6.mono (by omega))
      have hr6 : W6.rangeAt TA 0 L6 := rangeL hat
      have hi6 := info_stoL (L := L6) hl6
      have hi6' := info_stoA (L := L6) hl6
      have hT6 : W6.there T5 0 L6.toArray.size := thereL h7 (by rw [List.size_toArray, hl6]; exact Nat.le_refl 11)
      have hb7 : Below N w (W6.setCells T5 0 L6) := hbw.trans (Lib.below_setCells_w (by omega) L6 0 W6)
      have h77 : StBx T5 (toS st') X5 (-1) (W6.setCells T5 0 L6) := by
        unfold StBx
        rw [hL6]
        exact heap_setCells_all (C := stoL (toS st) X (-1)) h7 (by rw [hl6]; rfl)
      have hst7 : StF N (W6.setCells T5 0 L6) (toS st') X5 := hst6.kpt (h7.kpts L6)
      have HS7 := Lib.hid (And.intro h77 (And.intro hst7 hb7))
      have HN7 := Lib.hid HP.out.2.1
      have HW7 := Lib.hid HP.out.2.2.1
      have HK7 := Lib.hid HP.out.2.2.2
      clear hat hbl hb5 hst5 hL6 hb6 h7 hst6 hbw hb7 h77 hst7 HP
      go_wp2_with first
        | with_reducible refine wpList_load_mid rfl 33 _ rfl TA 0 rfl L6 _ hr6 Tryz.underlying33 rfl hi6 ?_
        | with_reducible refine wpList_store_mid rfl 33 _ _ rfl T5 0 L6.toArray rfl rfl hT6 hi6' (all_oneCell_toArray ho6) ?_
      exact ⟨⟨j + 1, st', X5, by omega, ret_i (by omega), HS7, HN7, HW7, HK7⟩, by simp only [intOf]; omega⟩
    · have hjn' : j = n := by omega
      subst hjn'
      clear hj hjn
      have hdr := drop_st HN.out (by omega) HS.out.2.1.ok hgn
      have hrn := HS.out.1.range
      have hin := info_stoL (L := stoL (toS st) X (-1)) rfl
      obtain ⟨L5, hL5⟩ : ∃ L, stoL (toS st) X (-1) = L := ⟨_, rfl⟩
      have hl5 : L5.length = 11 := by rw [← hL5]; rfl
      rw [hL5] at hdr hrn hin
      have hn' := HN.out.drop (nm := nm) hgn
      have hw' := HW.out.drop HN.out.hon hgn
      have htl : l.take j = l := by rw [← hln]; exact List.take_length
      have hkl := HK.out
      rw [htl] at hw' hkl
      obtain ⟨st', hst'⟩ : ∃ s', (Pl.dropAll st nm).1 = s' := ⟨_, rfl⟩
      rw [hst'] at hdr hn' hw'
      have HP := Lib.hid (And.intro hdr (And.intro hn' (And.intro hw' hkl)))
      clear hdr hn' hw' hkl htl hst'
      go_upto_region 17 with first
        | with_reducible refine wpList_load_mid rfl 33 _ rfl T5 0 rfl L5 _ hrn Tryz.underlying33 rfl hin ?_
        | (with_reducible refine HP.out.1.mono ?_)
      rintro _ w5 ⟨v, rfl, ⟨X5, rfl, hst5⟩, hb5⟩
      clear hrn hin
      obtain ⟨L6, hL6⟩ : ∃ L, stoL (toS st') X5 (-1) = L := ⟨_, rfl⟩
      have hl6 : L6.length = 11 := by rw [← hL6]; rfl
      have ho6 : ∀ v ∈ L6, v.oneCell' = true := by rw [← hL6]; exact stoL_one _ _ _
      rw [hL6]
      have hs5 := hb5.size
      have h7 := HS.out.1.keep hb5
      have hbw := HS.out.2.2.trans (hb5.mono (by omega))
      have hi6' := info_stoA (L := L6) hl6
      have hT6 : w5.there T5 0 L6.toArray.size := thereL h7 (by rw [List.size_toArray, hl6]; exact Nat.le_refl 11)
      have hb7 : Below N w (w5.setCells T5 0 L6) := hbw.trans (Lib.below_setCells_w (by omega) L6 0 w5)
      have h77 : StBx T5 (toS st') X5 (-1) (w5.setCells T5 0 L6) := by
        unfold StBx
        rw [hL6]
        exact heap_setCells_all (C := stoL (toS st) X (-1)) h7 (by rw [hl6]; rfl)
      have hst7 : StF N (w5.setCells T5 0 L6) (toS st') X5 := (hst5.weak (by omega)).kpt (h7.kpts L6)
      go_upto_region 17 with first
        | with_reducible refine wpList_store_mid rfl 33 _ _ rfl T5 0 L6.toArray rfl rfl hT6 hi6' (all_oneCell_toArray ho6) ?_
      obtain ⟨V0, hV0⟩ : ∃ V, w5.setCells T5 0 L6 = V := ⟨_, rfl⟩
      rw [hV0] at hb7 h77 hst7
      simp only [hV0]
      have HD := Lib.hid (And.intro h77 (And.intro hst7 hb7))
      have HN' := Lib.hid HP.out.2.1
      have HW' := Lib.hid HP.out.2.2.1
      have HK' := Lib.hid HP.out.2.2.2
      have hbn : (byt nm).length ≤ 65536 := by unfold byt; rw [List.length_append]; simp only [List.length_cons, List.length_nil]; have := (Pl.okName_len hgn).2; omega
      have hnf : nm ∉ l.filter (fun x => decide (x ≠ nm)) := by simp
      have hvl0 := blk_lt HD.out.1
      clear h7 hbw hi6' hT6 hb7 h77 hst7 hst5 hb5 hV0 hs5 hL5 hl5 HP HK HW HN HS
      have hct := read_wr HN'.out (by omega) HW'.out HD.out.2.1.ok hgn hbn (HV.out.1.below (by rw [hN]; exact HD.out.2.2))
      rw [if_neg hnf, if_neg hnf] at hct
      have hrn := HD.out.1.range
      have hin := info_stoL (L := stoL (toS st') X5 (-1)) rfl
      rw [hL6] at hct hrn hin
      have HCT := Lib.hid hct
      clear hct
      go_upto_region 18 with first
        | with_reducible refine wpList_load_mid rfl 33 _ rfl T5 0 rfl L6 _ hrn Tryz.underlying33 rfl hin ?_
        | (with_reducible refine HCT.out.mono ?_)
      rintro _ u1 ⟨v, rfl, ⟨L9, rfl, hl9, ho9⟩, hbu1⟩
      clear hrn hin HCT
      have hbt := box_there u1 (L := L9) hl9
      have hbi := info_stoA (L := L9) hl9
      go_upto_region 18 with first
        | with_reducible refine wpList_store_mid rfl 33 _ _ rfl u1.heap.size 0 L9.toArray rfl rfl hbt hbi (all_oneCell_toArray ho9) ?_
      obtain ⟨V1, hW⟩ : ∃ W', boxW u1 L9 = W' := ⟨_, rfl⟩
      have hat := box_at u1 (L := L9) hl9
      have hbl := box_below u1 L9
      rw [hW] at hat hbl
      unfold boxW at hW
      obtain ⟨TC, hT⟩ : ∃ T', u1.heap.size = T' := ⟨_, rfl⟩
      rw [hT] at hW hat hbl
      simp only [hT]
      simp only [hW]
      have hge_TC : u1.heap.size ≤ TC := Nat.le_of_eq hT
      have hle_TC : TC ≤ u1.heap.size := Nat.le_of_eq hT.symm
      clear hW hT hbt hbi
      have hs_V1 := hbu1.size
      have hbxV1 : Below V0.heap.size V0 V1 := hbu1.trans (hbl.mono (by omega))
      have HSV1 := Lib.hid (And.intro (HD.out.1.keep hbxV1) (And.intro (HD.out.2.1.kpt (KpT.below hbxV1)) (HD.out.2.2.trans (hbxV1.mono (by have := HD.out.2.2.size; omega)))))
      clear hat hbl hbu1 hl9 ho9 hbxV1
      have hct := vote_wr HN'.out (by omega) HW'.out HSV1.out.2.1.ok hgn hnf
      have hrn := HSV1.out.1.range
      have hin := info_stoL (L := stoL (toS st') X5 (-1)) rfl
      rw [hL6] at hct hrn hin
      have HCT := Lib.hid hct
      clear hct
      go_upto_region 19 with first
        | with_reducible refine wpList_load_mid rfl 33 _ rfl T5 0 rfl L6 _ hrn Tryz.underlying33 rfl hin ?_
        | (with_reducible refine HCT.out.mono ?_)
      rintro _ u2 ⟨v, rfl, ⟨L10, rfl, hl10, ho10⟩, hbu2⟩
      clear hrn hin HCT
      have hbt := box_there u2 (L := L10) hl10
      have hbi := info_stoA (L := L10) hl10
      go_upto_region 19 with first
        | with_reducible refine wpList_store_mid rfl 33 _ _ rfl u2.heap.size 0 L10.toArray rfl rfl hbt hbi (all_oneCell_toArray ho10) ?_
      obtain ⟨V2, hW⟩ : ∃ W', boxW u2 L10 = W' := ⟨_, rfl⟩
      have hat := box_at u2 (L := L10) hl10
      have hbl := box_below u2 L10
      rw [hW] at hat hbl
      unfold boxW at hW
      obtain ⟨TD, hT⟩ : ∃ T', u2.heap.size = T' := ⟨_, rfl⟩
      rw [hT] at hW hat hbl
      simp only [hT]
      simp only [hW]
      have hge_TD : u2.heap.size ≤ TD := Nat.le_of_eq hT
      have hle_TD : TD ≤ u2.heap.size := Nat.le_of_eq hT.symm
      clear hW hT hbt hbi
      have hs_V2 := hbu2.size
      have hbxV2 : Below V1.heap.size V1 V2 := hbu2.trans (hbl.mono (by omega))
      have HSV2 := Lib.hid (And.intro (HSV1.out.1.keep hbxV2) (And.intro (HSV1.out.2.1.kpt (KpT.below hbxV2)) (HSV1.out.2.2.trans (hbxV2.mono (by have := HSV1.out.2.2.size; omega)))))
      clear hat hbl hbu2 hl10 ho10 hbxV2
      obtain ⟨Q, hQ1, hQ2, hQ3, hQ4⟩ := names_st HN'.out (by omega) HW'.out HSV2.out.2.1.ok
      have hct := hQ4
      have hrn := HSV2.out.1.range
      have hin := info_stoL (L := stoL (toS st') X5 (-1)) rfl
      rw [hL6] at hct hrn hin
      have HCT := Lib.hid hct
      clear hct
      go_upto_region 20 with first
        | with_reducible refine wpList_load_mid rfl 33 _ rfl T5 0 rfl L6 _ hrn Tryz.underlying33 rfl hin ?_
        | (with_reducible refine HCT.out.mono ?_)
      rintro _ u3 ⟨v, rfl, ⟨L11, AQ, cQ, rfl, hl11, ho11, hsl⟩, hbu3⟩
      clear hrn hin HCT
      have hbt := box_there u3 (L := L11) hl11
      have hbi := info_stoA (L := L11) hl11
      go_upto_region 20 with first
        | with_reducible refine wpList_store_mid rfl 33 _ _ rfl u3.heap.size 0 L11.toArray rfl rfl hbt hbi (all_oneCell_toArray ho11) ?_
      obtain ⟨V3, hW⟩ : ∃ W', boxW u3 L11 = W' := ⟨_, rfl⟩
      have hat := box_at u3 (L := L11) hl11
      have hbl := box_below u3 L11
      rw [hW] at hat hbl
      unfold boxW at hW
      obtain ⟨TE, hT⟩ : ∃ T', u3.heap.size = T' := ⟨_, rfl⟩
      rw [hT] at hW hat hbl
      simp only [hT]
      simp only [hW]
      have hge_TE : u3.heap.size ≤ TE := Nat.le_of_eq hT
      have hle_TE : TE ≤ u3.heap.size := Nat.le_of_eq hT.symm
      clear hW hT hbt hbi
      have hs_V3 := hbu3.size
      have hbxV3 : Below V2.heap.size V2 V3 := hbu3.trans (hbl.mono (by omega))
      have HSV3 := Lib.hid (And.intro (HSV2.out.1.keep hbxV3) (And.intro (HSV2.out.2.1.kpt (KpT.below hbxV3)) (HSV2.out.2.2.trans (hbxV3.mono (by have := HSV2.out.2.2.size; omega)))))
      have hslV := hsl.below (hbl.mono hge_TE)
      clear hat hbl hbu3 hl11 ho11 hQ4 hsl hbxV3
      have hmm := @run_makeMap Tryz.prog
      have hmm1 := SetT.made V3
      go_wp2_with fail
      obtain ⟨M, hMM⟩ : ∃ m, V3.heap.size = m := ⟨_, rfl⟩
      have hbM : Below M V3 (V3.alloc (.map #[] 0)) := (Below.refl _ _).alloc (Nat.le_of_eq hMM.symm) _
      obtain ⟨VM, hVM⟩ : ∃ V, V3.alloc (.map #[] 0) = V := ⟨_, rfl⟩
      simp only [hMM]
      rw [hMM, hVM] at hmm1
      rw [hVM] at hbM ⊢
      have HM := Lib.hid (And.intro hmm1 (And.intro hbM (And.intro hMM hslV)))
      clear hmm hmm1 hbM hVM hslV
      have HQ := Lib.hid (And.intro hQ1 hQ2)
      clear hQ1 hQ2
      go_loopw [113] (fun iv wr => ∃ (k : Nat) (Y : List (List UInt8)) (z : Nat), k ≤ j ∧ iv = .int .i64 (k : Int) ∧ z ≤ k ∧ Hid (SetT wr M Y z ∧ Below M V3 wr) ∧ Hid (∀ x, x ∈ Y ↔ x ∈ (l.take k).filter fun x => decide (x ≠ nm))) (fun iv _ => j - (intOf iv).toNat)
      case atStart => exact ⟨0, [], 0, by omega, rfl, Nat.le_refl _, Lib.hid (And.intro HM.out.1 HM.out.2.1), Lib.hid (by simp)⟩
      case round =>
        obtain ⟨k, Y, z, hk, rfl, hzk, HY, HI⟩ := hrel
        have hM3 : V3.heap.size = M := HM.out.2.2.1
        have hSr := HSV3.out.1.keep (W' := wr) (by rw [hM3]; exact HY.out.2)
        by_cases hkj : k < j
        · have hkl : k < l.length := by omega
          obtain ⟨b, off, rfl, hlt, hc⟩ := (HV.out.2.below (by rw [hN]; exact HSV3.out.2.2)).all (by omega)
          have hc1 := hc k (by simpa [strs] using hkl)
          rw [strs_get l k hkl] at hc1
          have hc1 := (HY.out.2.cell (p := ⟨b, off + k, none⟩) (by rw [← hM3]; exact hlt)).trans hc1
          have hsm : l[k] ∈ l := List.getElem_mem hkl
          have hgs := HK'.out _ hsm
          have htk : l.take (k + 1) = l.take k ++ [l[k]] := List.take_succ_eq_append_getElem hkl
          obtain ⟨s, hs⟩ : ∃ s, l[k] = s := ⟨_, rfl⟩
          rw [hs] at hc1 hgs htk hsm
          have HTK := Lib.hid (And.intro htk hsm)
          have hsl := (Pl.okName_len hgs).2
          clear hc hlt hs htk hsm
          by_cases hsn : (s == nm) = true
          · have e := eq_of_beq hsn
            have hI := HI.out
            have HI' := Lib.hid (mem_take_skip hI (by rw [← e]; exact HTK.out.1))
            clear hI e
            go_wp2_with fail
            exact ⟨⟨k + 1, Y, z, by omega, ret_i (by omega), by omega, HY, HI'⟩, by simp only [intOf]; omega⟩
          have hsn' : (s == nm) = false := by simpa using hsn
          have hne : s ≠ nm := fun e => hsn (by rw [e]; exact beq_self_eq_true nm)
          have HI' := Lib.hid (mem_take_on HI.out HTK.out.1 hne)
          have hmem : s ∈ l.filter (fun x => decide (x ≠ nm)) := by rw [List.mem_filter]; exact ⟨HTK.out.2, by simp [hne]⟩
          obtain ⟨W1, hput, hY1, hg1⟩ := HY.out.1.put (q := s) (by omega) (by omega)
          have hb1 : Below M V3 W1 := HY.out.2.grown hg1 (by have := HY.out.2.size; omega) (fun i e => by cases e; exact Nat.le_refl _)
          have hb1' : Below V3.heap.size V3 W1 := by rw [hM3]; exact hb1
          have HS1 := Lib.hid (And.intro (HSV3.out.1.keep hb1') (And.intro (HSV3.out.2.1.kpt (KpT.below hb1')) (HSV3.out.2.2.trans (hb1'.mono (by have := HSV3.out.2.2.size; omega)))))
          have HY1 := Lib.hid (And.intro hY1 hb1)
          have hbs : (byt s).length ≤ 65536 := by unfold byt; rw [List.length_append]; simp only [List.length_cons, List.length_nil]; omega
          clear hY1 hg1 hb1 hb1' hsn hne
          have hct := read_wr HN'.out (by omega) HW'.out HS1.out.2.1.ok hgs hbs (HV.out.1.below (by rw [hN]; exact HS1.out.2.2))
          rw [if_pos hmem, if_pos hmem] at hct
          simp only [byt, List.cons_append, List.nil_append] at hct
          have hrn := HS1.out.1.range
          have hin := info_stoL (L := stoL (toS st') X5 (-1)) rfl
          rw [hL6] at hct hrn hin
          have HCT := Lib.hid hct
          clear hct
          go_upto_region 29 with first
            | with_reducible refine wpList_load_mid rfl 33 _ rfl T5 0 rfl L6 _ hrn Tryz.underlying33 rfl hin ?_
            | (with_reducible refine HCT.out.mono ?_)
          rintro _ u4 ⟨v, rfl, ⟨L12, rfl, hl12, ho12⟩, hbu4⟩
          clear hrn hin HCT
          have hbt := box_there u4 (L := L12) hl12
          have hbi := info_stoA (L := L12) hl12
          go_upto_region 29 with first
            | with_reducible refine wpList_store_mid rfl 33 _ _ rfl u4.heap.size 0 L12.toArray rfl rfl hbt hbi (all_oneCell_toArray ho12) ?_
          obtain ⟨V4, hW⟩ : ∃ W', boxW u4 L12 = W' := ⟨_, rfl⟩
          have hat := box_at u4 (L := L12) hl12
          have hbl := box_below u4 L12
          rw [hW] at hat hbl
          unfold boxW at hW
          obtain ⟨TF, hT⟩ : ∃ T', u4.heap.size = T' := ⟨_, rfl⟩
          rw [hT] at hW hat hbl
          simp only [hT]
          simp only [hW]
          have hge_TF : u4.heap.size ≤ TF := Nat.le_of_eq hT
          have hle_TF : TF ≤ u4.heap.size := Nat.le_of_eq hT.symm
          clear hW hT hbt hbi
          have hs_V4 := hbu4.size
          have hbxV4 : Below W1.heap.size W1 V4 := hbu4.trans (hbl.mono (by omega))
          have HSV4 := Lib.hid (And.intro (HS1.out.1.keep hbxV4) (And.intro (HS1.out.2.1.kpt (KpT.below hbxV4)) (HS1.out.2.2.trans (hbxV4.mono (by have := HS1.out.2.2.size; omega)))))
          have hM1 : M ≤ W1.heap.size := Nat.le_of_lt HY1.out.1.lt
          have HY2 := Lib.hid (And.intro (HY1.out.1.below hbxV4) (HY1.out.2.trans (hbxV4.mono hM1)))
          clear hat hbl hbu4 hl12 ho12 hbxV4 hput
          go_wp2_with fail
          exact ⟨⟨k + 1, _, z + 1, by omega, ret_i (by omega), by omega, HY2, HI'⟩, by simp only [intOf]; omega⟩
        · have hkj' : k = j := by omega
          subst hkj'
          clear hk hkj
          have htl : l.take k = l := by rw [← hln]; exact List.take_length
          have hI := HI.out
          rw [htl] at hI
          have hle := tx_eq (rise_nodup HQ.out.1) HY.out.1.1 (fun x => (HQ.out.2 x).trans (hI x).symm)
          have hlm := HY.out.1.len 3
          have hsV := HM.out.2.2.2.below (by rw [hM3]; exact HY.out.2)
          have hQl : ∀ x ∈ Q, x.length ≤ 100 ∧ x ∈ Y := fun x hx => by
            have h1 := (HQ.out.2 x).1 hx
            exact ⟨(Pl.okName_len (HK'.out x (List.mem_filter.1 h1).1)).2, (hI x).2 h1⟩
          have HZ := Lib.hid (And.intro hsV hQl)
          clear htl hI hsV hQl
          have hbz : Below N w wr := HSV3.out.2.2.trans (HY.out.2.mono (by have := HSV3.out.2.2.size; omega))
          have HBZ := Lib.hid hbz
          clear hbz
          rw [← hle] at hlm
          go_wp2_with fail
          go_loopw [140] (fun iv wq => ∃ (q : Nat), q ≤ Q.length ∧ iv = .int .i64 (q : Int) ∧ wq = wr) (fun iv _ => Q.length - (intOf iv).toNat)
          case atStart => exact ⟨0, Nat.zero_le _, rfl, rfl⟩
          case round =>
            obtain ⟨q, hq, rfl, rfl⟩ := hrel
            by_cases hqq : q < Q.length
            · obtain ⟨b', off', rfl, hlt, hc⟩ := HZ.out.1.1.all (by omega)
              have hc1 := hc q (by simpa [strs] using hqq)
              rw [strs_get Q q hqq] at hc1
              have hx := HZ.out.2 _ (List.getElem_mem hqq)
              obtain ⟨x, hxx⟩ : ∃ x, Q[q] = x := ⟨_, rfl⟩
              rw [hxx] at hc1 hx
              have hlo := HY.out.1.look (q := x) (by omega)
              rw [decide_eq_true hx.2] at hlo
              clear hc hlt hx hxx
              go_wp2_with fail
              exact ⟨⟨q + 1, by omega, ret_i (by omega), by trivial⟩, by simp only [intOf]; omega⟩
            · have hqq' : q = Q.length := by omega
              subst hqq'
              go_wp2_with fail
              go_ret
              exact ⟨_, rfl, rfl, by rw [hN]; exact HBZ.out⟩
-- FRAME
set_option maxRecDepth 100000 in
theorem spreadDrops_lifted (os : Os) (started : os.Started) (H : Type) (enc : TypeId × Value → H) :
    ReturnsInHanded {} Tryz.checked os 8 .any (fun w args => (Rows.spreadDropsSpec.pre enc Tryz.prog Tryz.f8 [] false w args ∧ laidMetH Tryz.prog tabsW w) ∧ sizedMet enc Tryz.prog Tryz.f8 (OpenSpec.ofChange Rows.spreadDropsSpec) false w args) (Rows.spreadDropsSpec.post enc Tryz.prog Tryz.f8 false true false false) := by
  refine returnsInHanded_of_change_and (C := Tryz.checked) (X := fun w _ => laidMetH Tryz.prog tabsW w) (fun _ _ _ hh h => h.of_heap hh) own started (by kernel_rfl) Tryz.func8
    (ChangeSpec.witness_shaped (enc := enc) (C := Tryz.checked) (os := os) (X := fun w _ => laidMetH Tryz.prog tabsW w) false (World.doorLaid Tryz.prog 100 os) #[.slice none 0 0, .string ⟨#[]⟩] 8 rfl (World.shaped_of_RefB (by kernel_rfl) (by kernel_rfl)) (by kernel_rfl) (by kernel_rfl) (by kernel_rfl) (door_metW os _)) ?_
  intro W base args ds gs before hval0 hW hcnd hsz0 hL _
  have hvars := vnum_ofW hL
  have hval : ∀ (j : Nat) t v, Tryz.f8.params[j]? = some t → args[j]? = some v → Value.okWide Tryz.prog W .any base t v := hval0
  have hW' := hW
  obtain ⟨p, q, hA0, hV, rfl, hfz, hnd⟩ := hW
  have hA : DataW.TrodAll enc Tryz.prog W 0 (fun _ => true) true Tryz.f8.params.toList args.toList ds p := hA0
  have hsz : (DataW.weightsEach Tryz.prog (Tryz.f8.params.toList ++ Rows.spreadDropsSpec.plain.varTypes Tryz.prog) (ds ++ gs)).all (· ≤ reachBytes) = true := hsz0
  rw [Tryz.params8] at hA hval hsz
  obtain ⟨v0, vs0, d0, ds0, p0, q0, hargs, rfl, rfl, h0, r0⟩ := trodAll_cons hA
  obtain ⟨v1, vs1, d1, ds1, p1, q1, rfl, rfl, rfl, h1, r1⟩ := trodAll_cons r0
  obtain ⟨rfl, rfl, rfl⟩ := trodAll_nil r1
  obtain rfl : args = #[v0, v1] := by cases args; simp_all
  obtain ⟨rfl, rfl⟩ := trodVars_none hV
  have k0 := h0
  have lt0 : ∀ x ∈ p0, x.block < W.heap.size := by obtain ⟨m, hm⟩ := k0; exact DataW.trod_lt m _ _ _ hm
  have hz0 : ∀ m ∈ d0.weights Tryz.prog 22, m ≤ reachBytes := fun m hm => by
    have h1 := List.all_eq_true.1 hsz m (DataW.weights_mem_each (j := 0) rfl rfl m hm)
    simpa using h1
  obtain ⟨A0, n0, c0, l0, rfl, eA0, eB0, eC0, eD0, eE0, eF0⟩ := open_strs (hval 0 22 v0 rfl rfl) h0 hz0
  have k1 := h1
  have lt1 : ∀ x ∈ p1, x.block < W.heap.size := by obtain ⟨m, hm⟩ := k1; exact DataW.trod_lt m _ _ _ hm
  have hz1 : ∀ m ∈ d1.weights Tryz.prog 9, m ≤ reachBytes := fun m hm => by
    have h1 := List.all_eq_true.1 hsz m (DataW.weights_mem_each (j := 1) rfl rfl m hm)
    simpa using h1
  obtain ⟨l1, rfl, eA1⟩ := open_str (hval 1 9 v1 rfl rfl) h1 hz1
  clear hA0 hval0 hsz0
  refine (spreadDrops_walk A0 n0 c0 l0 l1 W eA0 (Nat.le_trans eD0 reach_le) (fun s hs => Nat.le_trans (eE0 s hs) reach_le) eF0 (Nat.le_trans eA1 reach_le) hvars).mono fun e W' ⟨v, he, hv, bel⟩ => ?_
  subst he hv
  exact ⟨_, rfl, _, _, _, [], _, [], hW', trodAll_mk1 (shut_bool Tryz.underlying4 _), (trodAll_cons_mk (Below.trod laidOut (by kernel_rfl) (of_decide_eq_true (by kernel_rfl)) k0 bel lt0) (trodAll_cons_mk (Below.trod laidOut (by kernel_rfl) (of_decide_eq_true (by kernel_rfl)) k1 bel lt1) trodAll_mk0)), rfl, bel.frame _, fun h => by cases h⟩

theorem spreadDrops_row : Rows.SpreadDropsSaid :=
  OpenClaim.holds_of_wide 8 Tryz.f8 rfl rfl rfl rfl rfl rfl rfl ⟨rfl, rfl, rfl, rfl, rfl⟩ rfl rfl rfl rfl rfl (by kernel_rfl) Tryz.func8 (by kernel_rfl)
    (of_decide_eq_true (by kernel_rfl)) (by unfold Func.isWrapper; first | (rw [if_pos (by decide +kernel)]; kernel_rfl) | (rw [if_neg (by decide +kernel)]; exact ⟨rfl, rfl⟩))
    (fun os started H enc _ => spreadDrops_lifted os started H enc)

theorem spreadDrops_holds : Rows.SpreadDropsCardSaid :=
  Claim7.holds_tied_plain_at .later [] [.data, .data, .data, .data, .data, .sentinel, .sentinel] true (true, "0b7c186e8d0c8ec5dbd714917fda1c1a9863461abdd35648811154aebd693e09") true
    spreadDrops_row (fun _ h => by cases h) (by kernel_rfl) (fun _ h => by cases h) spreadDrops_row_tie rfl ⟨rfl, rfl⟩ (by kernel_rfl) rfl
    (fun f fn hf hfn => by
      obtain rfl : f = 8 := Option.some.inj ((show Tryz.prog.funcNamed "hibernacle/hibernaclelaw37.SpreadDrops" = some 8 by kernel_rfl).symm.trans hf) |>.symm
      obtain rfl : fn = Tryz.f8 := (Option.some.inj (Tryz.func8.symm.trans hfn)).symm
      exact ⟨by kernel_rfl, fun j t ht => by
        rw [Tryz.params8] at ht
        rcases j with _ | _ | _ | _ | j
        all_goals first
          | (simp at ht; done)
          | (have h3 := Option.some.inj ht; subst h3; exact (show Tryz.prog.wantsStandIn _ = false by kernel_rfl))⟩)
    (by kernel_rfl)
#print axioms spreadDrops_holds
end Go.Proofs.YtdnebgilkfafhaaGreatDoor
