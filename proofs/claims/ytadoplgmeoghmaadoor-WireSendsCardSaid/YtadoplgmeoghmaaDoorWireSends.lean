/- WireSends holds: a message that may be, as bytes, sent over a channel, and taken at its other end, is got as it was. No condition. -/
import Derived.Test.YtadoplgmeoghmaaDoorLaid
import Derived.Test.YtadoplgmeoghmaaDoorTie
import Derived.Test.YtadoplgmeoghmaaDoorCards
import Derived.Deep.DeepHandedRow
import Derived.Deep.DeepWitnessRowRef
import Derived.Lib.LaidTab
import Derived.Stop.BytesEq
import Derived.Test.YtadoplgmeoghmaaDoorWireG
import Derived.Test.YtadoplgmeoghmaaDoorWireK
import Derived.Test.YtadoplgmeoghmaaDoorWireS
import Derived.Test.YtadoplgmeoghmaaDoorOpenMg
import Derived.Test.YtadoplgmeoghmaaDoorLaidW
import Derived.Test.YtadoplgmeoghmaaDoorTake
namespace Go.Proofs.YtadoplgmeoghmaaDoor
open Go.ChangeShapes Go.WideShapes Go.ChangeAt Go.RowKit
set_option linter.unusedVariables false
set_option linter.unusedSimpArgs false
attribute [local go_sem] ba_get ba_cut ba_add
theorem mg_mok {w : World} {m : Pl.Msg} {X : Cx} (h : SnOk w m.snap X) (hn : MgNum m) : Pl.MOk m := ⟨h.sum, hn.snap.c, hn.k, hn.n, hn.why⟩
theorem wput_two (m : Pl.Msg) : (Pl.wput m).2 = Pl.wchk m := by
  by_cases h : Pl.wchk m = 0
  · rw [Pl.wput_ok h, h]
  · rw [Pl.wput_no h]
theorem wput_len {m : Pl.Msg} (hm : Pl.MOk m) (h : Pl.wchk m = 0) : 0 < (Pl.wput m).1.length ∧ (Pl.wput m).1.length ≤ 2816046 := by
  rw [Pl.wput_ok h]
  have h1 := Pl.rowB_len_le [Lib.itoa m.k, Pl.bodyM m] 704011 (Pl.row_short (Pl.wOk_of h) hm)
  simp only [show ([Lib.itoa m.k, Pl.bodyM m] : List (List UInt8)).length = 2 from rfl] at h1
  have h2 := List.length_pos_iff.2 (Pl.lenB_ne (Lib.itoa m.k).length)
  have h3 : (Pl.rowB [Lib.itoa m.k, Pl.bodyM m]).length = (Pl.lenB (Lib.itoa m.k).length).length + ((Lib.itoa m.k).length + (Pl.rowB [Pl.bodyM m]).length) := by simp [Pl.rowB]
  constructor <;> simp only <;> omega
set_option maxRecDepth 100000 in
theorem ch_eq (m : List UInt8) (n : Nat) (k : List UInt8) (hk : k.length = 32) (w : World) : (Op.equalIn 10000 26 (.agg (chL m n k).toArray) (.agg (chL m n k).toArray)).run Tryd.prog w = .ok true w := by
  rw [run_equalIn_struct w 9999 26 _ _ (by kernel_rfl) (by kernel_rfl)]
  simp only [Program.fieldsOf, Tryd.underlying26]
  have ei : ∀ (x : Int) (W : World), (Op.equalIn 9999 22 (.int .u64 x) (.int .u64 x)).run Tryd.prog W = .ok true W := by
    intro x W
    rw [run_equalIn_int W 9998 22 _ _ _ _ Tryd.underlying22]; simp
  have es : ∀ (l : List UInt8) (W : World), (Op.equalIn 9999 9 (.string ⟨l.toArray⟩) (.string ⟨l.toArray⟩)).run Tryd.prog W = .ok true W := by
    intro l W
    rw [run_equalIn_string W 9998 9 _ _ Tryd.underlying9]
    simp
  have hz : ∀ W, (sizeOf 5).run Tryd.prog W = .ok 1 W := Tryd.sizeOf5
  have ek : ∀ W : World, (Op.equalIn 9999 24 (.agg (k.map Extern.Stop.cell).toArray) (.agg (k.map Extern.Stop.cell).toArray)).run Tryd.prog W = .ok true W := by
    intro W
    rw [run_equalIn_bytes W 9997 24 5 32 Tryd.underlying24 Tryd.underlying5 hz k k hk hk]
    simp
  have hp : ∀ W : World, (part 24 (chL m n k).toArray 2).run Tryd.prog W = .ok (.agg (k.map Extern.Stop.cell).toArray) W := by
    intro W
    have h32 : (sizeOf 24).run Tryd.prog W = .ok 32 W := Tryd.sizeOf24 W
    have hx : List.take 32 (List.drop 2 (chL m n k)) = List.map Extern.Stop.cell k := by
      simp only [chL, List.drop_succ_cons, List.drop_zero]
      exact List.take_of_length_le (by simp [u8s, hk])
    simp [part, isAgg, run_underlying Tryd.underlying24, Sem.run_bind, h32, hx]
  have hp0 : ∀ W : World, (part 9 (chL m n k).toArray 0).run Tryd.prog W = .ok (.string ⟨m.toArray⟩) W := by
    intro W
    simp [part, isAgg, run_underlying Tryd.underlying9, Sem.run_bind, chL]
  have hp1 : ∀ W : World, (part 22 (chL m n k).toArray 1).run Tryd.prog W = .ok (.int .u64 (n : Int)) W := by
    intro W
    simp [part, isAgg, run_underlying Tryd.underlying22, Sem.run_bind, chL]
  simp [Op.eqFields, Sem.run_bind, hp, hp0, hp1, ei, es, ek]
theorem openV_seal {k nonce head data : List UInt8} (hn : nonce.length = 12) : openV k head (Pl.sealS k nonce head data) = .tuple #[.string ⟨data.toArray⟩, .int .i64 0] := by
  unfold openV
  rw [if_neg (by rw [Pl.sealS_len]; omega), Pl.open_seal hn]
theorem frame_len (m : List UInt8) (n : Nat) (k d : List UInt8) (hm : m.length < 1000000000) (hd : d.length < 1000000000) : (Pl.frameS m n k d).length ≤ 1099511627776 := by
  have h1 := Pl.lenB_len m.length
  have h2 := Pl.lenB_len (Pl.putB n 8).length
  have h3 := Pl.putB_len n 8
  have h4 := Pl.sealS_len (Pl.keyedB k [Pl.tSend]) (Pl.nonceN n) (Pl.headN m n) d
  have h5 := Pl.nonceN_len n
  have h6 := Pl.lenB_len (Pl.sealS (Pl.keyedB k [Pl.tSend]) (Pl.nonceN n) (Pl.headN m n) d).length
  unfold Pl.frameS
  simp [Pl.rowB]; omega
set_option maxRecDepth 100000 in
set_option maxHeartbeats 8000000 in
theorem wireSends_walk (cm : List UInt8) (cn : Nat) (ck : List UInt8) (m : Pl.Msg) (X : Cx) (w : World) (hcm : cm.length ≤ 140737488355328) (hcn : cn < 18446744073709551616) (hck : ck.length = 32) (hm0 : SnOk w m.snap X) (fm : MgFit m) (nm : MgNum m) (hvs : VNum w ∧ VHash w) :
    Calls Tryd.prog 3 #[.agg (chL cm cn ck).toArray, .agg (mgL m X).toArray] w (RetB (fun v _ => v = .bool true) w) := by
  have hok := mg_mok hm0 nm
  have HSM := Lib.hid hm0.sum
  have HI := Lib.hid (info_mg hm0)
  have g1 := fun W h => great44_any m X W h fm
  have p1 := fun W h hv => wput_any m X W h fm hok hv
  have s1 := fun X' W h h2 => same44_any m m X X' W h h2 fm fm
  rw [show Pl.eqM m m = true from (Pl.eqM_iff _ _).2 rfl] at s1
  have ee := wput_two m
  have hlen := fun h => wput_len hok h
  have hgt := fun h => Pl.wget_put (m := m) h hok
  obtain ⟨P, hP⟩ : ∃ P, Pl.wput m = P := ⟨_, rfl⟩
  rw [hP] at p1 ee hlen hgt
  obtain ⟨B, E⟩ := P
  simp only at ee hlen hgt
  rw [← ee] at hlen hgt
  have HG := Lib.hid (And.intro g1 (And.intro p1 s1))
  have HN := Lib.hid (And.intro hlen hgt)
  have HOK := Lib.hid hm0
  have HV := Lib.hid hvs.1
  have HVh := Lib.hid hvs.2
  clear g1 p1 s1 ee hlen hgt hP hm0 hvs hok fm nm
  obtain ⟨LA, hLA⟩ : ∃ L, mgL m X = L := ⟨_, rfl⟩
  obtain ⟨LC, hLC⟩ : ∃ L, chL cm cn ck = L := ⟨_, rfl⟩
  have HLCl := Lib.hid (show LC.length = 34 by rw [← hLC]; exact chL_len hck)
  rw [hLA, hLC]
  have HLL := Lib.hid hLA
  have HLC := Lib.hid hLC
  go_enter Tryd.func3, Tryd.ntmps3
  go_upto_region 1 with (fail)
  generalize hV : (w.alloc _).alloc _ = V
  have hC : V.heap[w.heap.size]? = some (.cells LC.toArray 26 (0, 0)) := by rw [← hV]; exact (Below.heap_alloc _ _ _ (by simp)).trans (heap_alloc_new w _)
  have hx : Mg V (w.heap.size + 1) m X := by rw [← hV, ← hLA]; exact mg_row HSM.out (heap_alloc_2 w _ _)
  have hbV : Below w.heap.size w V := by rw [← hV]; exact ((Below.refl _ _).alloc (Nat.le_refl _) _).alloc (by simp) _
  have hBV : w.heap.size + 1 < V.heap.size := by rw [← hV]; simp
  obtain ⟨C, hCe⟩ : ∃ C, w.heap.size = C := ⟨_, rfl⟩
  obtain ⟨M, hMe⟩ : ∃ M, C + 1 = M := ⟨_, rfl⟩
  rw [hCe] at hC hx hBV ⊢
  rw [hMe] at hx hBV ⊢
  have hCV : C < V.heap.size := by omega
  have hwC : w.heap.size ≤ C := Nat.le_of_eq hCe
  clear hV hLA hLC hCe hMe
  have HD := Lib.hid hbV
  have hi1 := HI.out
  rw [HLL.out] at hi1
  have HX := Lib.hid hx; clear hx
  have HC := Lib.hid hC; clear hC
  have HK := Lib.hid (show ∀ W, Below V.heap.size V W → W.rangeAt M 0 LA from fun W hb => by
    have h1 := (HX.out.keep HSM.out hBV hb).all
    rwa [HLL.out] at h1)
  have HKC := Lib.hid (show ∀ W, Below V.heap.size V W → W.heap[C]? = some (.cells LC.toArray 26 (0, 0)) from fun W hb => (hb.block _ hCV).trans HC.out)
  have HKB := Lib.hid (show ∀ W, Below V.heap.size V W → Below w.heap.size w W from fun W hb => hbV.trans (hb.mono hbV.size))
  have HCs := Lib.hid (show ∀ W, Below V.heap.size V W → ChS W C cm cn (u8s ck) from fun W hb => ChS.of (by rw [HLC.out]; exact HKC.out W hb))
  clear hbV hBV
  have hr1 := HK.out V (Below.refl _ _)
  go_wp2_with (with_reducible refine wpList_load_mid rfl 34 _ rfl M 0 rfl LA _ hr1 Tryd.underlying34 rfl hi1 ?_)
  rw [← HLL.out]
  (with_reducible refine (HG.out.1 _ (HOK.out.below HD.out)).mono ?_)
  rintro e w1 ⟨v, rfl, hv1, hb1⟩
  rw [HLL.out]
  replace hr1 := HK.out _ hb1
  have hcm1 := (HCs.out _ hb1).a
  rcases hv1 with rfl | rfl
  rotate_left
  · clear hcm1
    go_wp2_with fail
    have hvz := HV.out.tab.keep (HKB.out _ hb1) (Nat.le_refl _)
    (with_reducible refine (awake44_any _ hvz).mono ?_)
    rintro e wz ⟨v, rfl, rfl, hbz⟩
    have hdz := (HKB.out _ hb1).trans (hbz.mono (HKB.out _ hb1).size)
    clear hbz
    go_wp2_with fail
    go_ret
    exact ⟨_, rfl, rfl, hdz⟩
  by_cases h100 : 100 < cm.length
  · have f1 : (100 : Int) < (cm.length : Int) := by omega
    go_wp2_with fail
    clear hcm1
    have hvz := HV.out.tab.keep (HKB.out _ hb1) (Nat.le_refl _)
    (with_reducible refine (awake44_any _ hvz).mono ?_)
    rintro e wz ⟨v, rfl, rfl, hbz⟩
    have hdz := (HKB.out _ hb1).trans (hbz.mono (HKB.out _ hb1).size)
    clear hbz
    go_wp2_with fail
    go_ret
    exact ⟨_, rfl, rfl, hdz⟩
  have f1 : ¬ (100 : Int) < (cm.length : Int) := by omega
  go_wp2_with (with_reducible refine wpList_load_mid rfl 34 _ rfl M 0 rfl LA _ hr1 Tryd.underlying34 rfl hi1 ?_)
  clear hcm1
  rw [← HLL.out]
  (with_reducible refine (HG.out.2.1 _ (HOK.out.below (HKB.out _ hb1)) (HV.out.tab.keep (HKB.out _ hb1) (Nat.le_refl _))).mono ?_)
  rintro e w2 ⟨v, rfl, rfl, hb2⟩
  rw [HLL.out]
  replace hb1 := hb1.trans (hb2.mono hb1.size)
  clear hb2 hr1
  unfold bytesV
  by_cases hE : E ≠ 0
  · have t1 : ((E : Int) == 0) = false := by rw [beq_eq_false_iff_ne]; omega
    have t1' : ((E : Int) != 0) = true := by unfold bne; rw [t1]; rfl
    go_wp2_with fail
    have hvz := HV.out.tab.keep (HKB.out _ hb1) (Nat.le_refl _)
    (with_reducible refine (awake44_any _ hvz).mono ?_)
    rintro e wz ⟨v, rfl, rfl, hbz⟩
    have hdz := (HKB.out _ hb1).trans (hbz.mono (HKB.out _ hb1).size)
    clear hbz
    go_wp2_with fail
    go_ret
    exact ⟨_, rfl, rfl, hdz⟩
  obtain rfl : E = 0 := by omega
  clear hE
  obtain ⟨hl1, hl2⟩ := HN.out.1 rfl
  have HGt := Lib.hid (HN.out.2 rfl)
  clear HN
  have hcr := rangeL (HKC.out _ hb1)
  have HIC := Lib.hid (show (Tryd.prog.info? 26).map (·.size) = some LC.length by rw [HLCl.out]; exact info_ch)
  go_wp2_with (with_reducible refine wpList_load_mid rfl 26 _ rfl C 0 rfl LC _ hcr Tryd.underlying26 rfl HIC.out ?_)
  clear hcr
  by_cases hbad : 65536 < B.length ∨ cn = 18446744073709551615
  · by_cases h65 : 65536 < B.length
    · have hsb := send_bad cm cn ck B hck (by omega) 6 (by rw [if_pos h65]) hbad w2
      rw [HLC.out] at hsb
      obtain ⟨Z, hZ⟩ : ∃ Z, noCh = Z := ⟨_, rfl⟩
      have HZl := Lib.hid (show Z.length = 34 by rw [← hZ]; rfl)
      have HZ1 := Lib.hid (show Z.toArray.all (·.oneCell') = true by rw [← hZ]; exact all_oneCell_toArray (chL_one _ _ _))
      unfold sendNo at hsb
      rw [hZ] at hsb
      clear hZ
      with_reducible refine hsb.mono ?_
      clear hsb
      rintro e w3 ⟨rfl, hb3⟩
      go_upto_region 7 with (with_reducible refine wpList_store_mid rfl 26 _ _ rfl w3.heap.size 0 Z.toArray rfl rfl (there_row (heap_alloc_new _ _) (by rw [List.size_toArray, HZl.out]; exact Nat.le_of_ble_eq_true rfl)) (by rw [List.size_toArray, HZl.out]; exact info_ch) HZ1.out ?_)
      generalize hW : World.setCells _ _ _ _ = w4
      have hb4 : Below w3.heap.size w3 w4 := by rw [← hW]; exact ((Below.refl _ _).alloc (Nat.le_refl _) _).trans (Lib.below_setCells_w (Nat.le_refl _) _ _ _)
      clear hW
      replace hb1 := (hb1.trans (hb3.mono hb1.size)).trans (hb4.mono (Nat.le_trans hb1.size hb3.size))
      clear hb3 hb4
      try simp only [Act.put]
      go_wp2_with fail
      have hvz := HV.out.tab.keep (HKB.out _ hb1) (Nat.le_refl _)
      (with_reducible refine (awake44_any _ hvz).mono ?_)
      rintro e wz ⟨v, rfl, rfl, hbz⟩
      have hdz := (HKB.out _ hb1).trans (hbz.mono (HKB.out _ hb1).size)
      clear hbz
      go_wp2_with fail
      go_ret
      exact ⟨_, rfl, rfl, hdz⟩
    · have hsb := send_bad cm cn ck B hck (by omega) 2 (by rw [if_neg h65]) hbad w2
      rw [HLC.out] at hsb
      obtain ⟨Z, hZ⟩ : ∃ Z, noCh = Z := ⟨_, rfl⟩
      have HZl := Lib.hid (show Z.length = 34 by rw [← hZ]; rfl)
      have HZ1 := Lib.hid (show Z.toArray.all (·.oneCell') = true by rw [← hZ]; exact all_oneCell_toArray (chL_one _ _ _))
      unfold sendNo at hsb
      rw [hZ] at hsb
      clear hZ
      with_reducible refine hsb.mono ?_
      clear hsb
      rintro e w3 ⟨rfl, hb3⟩
      go_upto_region 7 with (with_reducible refine wpList_store_mid rfl 26 _ _ rfl w3.heap.size 0 Z.toArray rfl rfl (there_row (heap_alloc_new _ _) (by rw [List.size_toArray, HZl.out]; exact Nat.le_of_ble_eq_true rfl)) (by rw [List.size_toArray, HZl.out]; exact info_ch) HZ1.out ?_)
      generalize hW : World.setCells _ _ _ _ = w4
      have hb4 : Below w3.heap.size w3 w4 := by rw [← hW]; exact ((Below.refl _ _).alloc (Nat.le_refl _) _).trans (Lib.below_setCells_w (Nat.le_refl _) _ _ _)
      clear hW
      replace hb1 := (hb1.trans (hb3.mono hb1.size)).trans (hb4.mono (Nat.le_trans hb1.size hb3.size))
      clear hb3 hb4
      try simp only [Act.put]
      go_wp2_with fail
      have hvz := HV.out.tab.keep (HKB.out _ hb1) (Nat.le_refl _)
      (with_reducible refine (awake44_any _ hvz).mono ?_)
      rintro e wz ⟨v, rfl, rfl, hbz⟩
      have hdz := (HKB.out _ hb1).trans (hbz.mono (HKB.out _ hb1).size)
      clear hbz
      go_wp2_with fail
      go_ret
      exact ⟨_, rfl, rfl, hdz⟩
  have h65 : B.length ≤ 65536 := by omega
  have hcn1 : cn < 18446744073709551615 := by omega
  have hsg := send_good cm cn ck B hck (by omega) h65 hcn1 w2 (HVh.out.below (HKB.out _ hb1))
  rw [HLC.out] at hsg
  unfold sendV at hsg
  have HTk := Lib.hid (fun W hv => take_good cm cn ck (Pl.frameS cm cn ck B) B (Pl.putB cn 8) (Pl.sealS (Pl.keyedB ck [Pl.tSend]) (Pl.nonceN cn) (Pl.headN cm cn) B) hck (by omega) (frame_len _ _ _ _ (by omega) (by omega)) (Pl.frame_texts (by omega) (by omega)) (Pl.putB_len _ _) (Pl.frame_num hcn) (by rw [Pl.sealS_len, Pl.nonceN_len]; omega) hcn1 (openV_seal (Pl.nonceN_len _)) W hv)
  unfold takeV at HTk
  rw [HLC.out] at HTk
  obtain ⟨L1, hL1⟩ : ∃ L, chL cm (cn + 1) (Pl.nextK ck) = L := ⟨_, rfl⟩
  have HQl := Lib.hid (show L1.length = 34 by rw [← hL1]; exact chL_len (Pl.keyedB_len _ _))
  have HQ1 := Lib.hid (show L1.toArray.all (·.oneCell') = true by rw [← hL1]; exact all_oneCell_toArray (chL_one _ _ _))
  have HQe := Lib.hid (fun W => ch_eq cm (cn + 1) (Pl.nextK ck) (Pl.keyedB_len _ _) W)
  rw [hL1] at HQe HTk hsg
  obtain ⟨fr, hfr⟩ : ∃ z, Pl.frameS cm cn ck B = z := ⟨_, rfl⟩
  rw [hfr] at HTk hsg
  clear hL1 hfr
  with_reducible refine hsg.mono ?_
  clear hsg
  rintro e w3 ⟨rfl, hb3⟩
  go_upto_region 7 with (with_reducible refine wpList_store_mid rfl 26 _ _ rfl w3.heap.size 0 L1.toArray rfl rfl (there_row (heap_alloc_new _ _) (by rw [List.size_toArray, HQl.out]; exact Nat.le_of_ble_eq_true rfl)) (by rw [List.size_toArray, HQl.out]; exact info_ch) HQ1.out ?_)
  have HP7 := Lib.hid (show ((w3.alloc (.cells #[.string ⟨#[]⟩, .int .u64 0, .int .u8 0, .int .u8 0, .int .u8 0, .int .u8 0, .int .u8 0, .int .u8 0, .int .u8 0, .int .u8 0, .int .u8 0, .int .u8 0, .int .u8 0, .int .u8 0, .int .u8 0, .int .u8 0, .int .u8 0, .int .u8 0, .int .u8 0, .int .u8 0, .int .u8 0, .int .u8 0, .int .u8 0, .int .u8 0, .int .u8 0, .int .u8 0, .int .u8 0, .int .u8 0, .int .u8 0, .int .u8 0, .int .u8 0, .int .u8 0, .int .u8 0, .int .u8 0] 26)).setCells w3.heap.size 0 L1).rangeAt w3.heap.size 0 L1 from World.rangeAt_setCells_same _ _ _ _ (there_row (heap_alloc_new _ _) (by rw [HQl.out]; exact Nat.le_of_ble_eq_true rfl)))
  generalize hW : World.setCells _ _ _ _ = w4
  rw [hW] at HP7
  have hb4 : Below w3.heap.size w3 w4 := by rw [← hW]; exact ((Below.refl _ _).alloc (Nat.le_refl _) _).trans (Lib.below_setCells_w (Nat.le_refl _) _ _ _)
  have hlt7 : w3.heap.size < w4.heap.size := by rw [← hW]; have := (Lib.below_setCells_w (B := 0) (Nat.zero_le w3.heap.size) L1 0 (w3.alloc (.cells #[.string ⟨#[]⟩, .int .u64 0, .int .u8 0, .int .u8 0, .int .u8 0, .int .u8 0, .int .u8 0, .int .u8 0, .int .u8 0, .int .u8 0, .int .u8 0, .int .u8 0, .int .u8 0, .int .u8 0, .int .u8 0, .int .u8 0, .int .u8 0, .int .u8 0, .int .u8 0, .int .u8 0, .int .u8 0, .int .u8 0, .int .u8 0, .int .u8 0, .int .u8 0, .int .u8 0, .int .u8 0, .int .u8 0, .int .u8 0, .int .u8 0, .int .u8 0, .int .u8 0, .int .u8 0, .int .u8 0] 26))).size; simp at this; omega
  clear hW
  replace hb1 := (hb1.trans (hb3.mono hb1.size)).trans (hb4.mono (Nat.le_trans hb1.size hb3.size))
  clear hb3 hb4
  obtain ⟨P7, hP7⟩ : ∃ P, w3.heap.size = P := ⟨_, rfl⟩
  rw [hP7] at HP7 hlt7 ⊢
  clear hP7
  have HK7 := Lib.hid (show ∀ W, Below w4.heap.size w4 W → W.rangeAt P7 0 L1 from fun W hb => HP7.out.keep hb hlt7)
  clear HP7 hlt7
  try simp only [Act.put]
  have hcr := rangeL (HKC.out _ hb1)
  have hct := HTk.out w4 (HVh.out.below (HKB.out _ hb1))
  go_wp2_with (with_reducible refine wpList_load_mid rfl 26 _ rfl C 0 rfl LC _ hcr Tryd.underlying26 rfl HIC.out ?_)
  with_reducible refine hct.mono ?_
  clear hct hcr
  rintro e w5 ⟨rfl, hb5⟩
  go_upto_region 10 with (with_reducible refine wpList_store_mid rfl 26 _ _ rfl w5.heap.size 0 L1.toArray rfl rfl (there_row (heap_alloc_new _ _) (by rw [List.size_toArray, HQl.out]; exact Nat.le_of_ble_eq_true rfl)) (by rw [List.size_toArray, HQl.out]; exact info_ch) HQ1.out ?_)
  have HP10 := Lib.hid (show ((w5.alloc (.cells #[.string ⟨#[]⟩, .int .u64 0, .int .u8 0, .int .u8 0, .int .u8 0, .int .u8 0, .int .u8 0, .int .u8 0, .int .u8 0, .int .u8 0, .int .u8 0, .int .u8 0, .int .u8 0, .int .u8 0, .int .u8 0, .int .u8 0, .int .u8 0, .int .u8 0, .int .u8 0, .int .u8 0, .int .u8 0, .int .u8 0, .int .u8 0, .int .u8 0, .int .u8 0, .int .u8 0, .int .u8 0, .int .u8 0, .int .u8 0, .int .u8 0, .int .u8 0, .int .u8 0, .int .u8 0, .int .u8 0] 26)).setCells w5.heap.size 0 L1).rangeAt w5.heap.size 0 L1 from World.rangeAt_setCells_same _ _ _ _ (there_row (heap_alloc_new _ _) (by rw [HQl.out]; exact Nat.le_of_ble_eq_true rfl)))
  generalize hW : World.setCells _ _ _ _ = w6
  rw [hW] at HP10
  have hb6 : Below w5.heap.size w5 w6 := by rw [← hW]; exact ((Below.refl _ _).alloc (Nat.le_refl _) _).trans (Lib.below_setCells_w (Nat.le_refl _) _ _ _)
  have hlt10 : w5.heap.size < w6.heap.size := by rw [← hW]; have := (Lib.below_setCells_w (B := 0) (Nat.zero_le w5.heap.size) L1 0 (w5.alloc (.cells #[.string ⟨#[]⟩, .int .u64 0, .int .u8 0, .int .u8 0, .int .u8 0, .int .u8 0, .int .u8 0, .int .u8 0, .int .u8 0, .int .u8 0, .int .u8 0, .int .u8 0, .int .u8 0, .int .u8 0, .int .u8 0, .int .u8 0, .int .u8 0, .int .u8 0, .int .u8 0, .int .u8 0, .int .u8 0, .int .u8 0, .int .u8 0, .int .u8 0, .int .u8 0, .int .u8 0, .int .u8 0, .int .u8 0, .int .u8 0, .int .u8 0, .int .u8 0, .int .u8 0, .int .u8 0, .int .u8 0] 26))).size; simp at this; omega
  clear hW
  have hb46 : Below w4.heap.size w4 w6 := hb5.trans (hb6.mono hb5.size)
  replace hb1 := hb1.trans (hb46.mono hb1.size)
  clear hb5 hb6
  obtain ⟨P10, hP10⟩ : ∃ P, w5.heap.size = P := ⟨_, rfl⟩
  rw [hP10] at HP10 hlt10 ⊢
  clear hP10
  replace HK7 := Lib.hid (show ∀ W, Below w6.heap.size w6 W → W.rangeAt P7 0 L1 from fun W hb => HK7.out W (hb46.trans (hb.mono hb46.size)))
  have HK10 := Lib.hid (show ∀ W, Below w6.heap.size w6 W → W.rangeAt P10 0 L1 from fun W hb => HP10.out.keep hb hlt10)
  clear HP10 hlt10 hb46
  try simp only [Act.put]
  have wg := fun W h => wget_any B W (by omega) h
  unfold GetOut at wg
  rw [HGt.out] at wg
  have HWG := Lib.hid wg; clear wg
  go_wp2_with fail
  (with_reducible refine (HWG.out _ (HV.out.keep (HKB.out _ hb1) (Nat.le_refl _))).mono ?_)
  rintro e w8 ⟨v, rfl, ⟨X1, rfl, hok1⟩, hb8⟩
  (try simp only)
  (try simp only at hok1)
  have hl3 : (mgL m X1).toArray.size = 45 := by rw [List.size_toArray]; exact mgL_len hok1
  have ho1 := mgL_one m X1
  obtain ⟨L3, hL3⟩ : ∃ L, mgL m X1 = L := ⟨_, rfl⟩
  rw [hL3] at hl3 ho1 ⊢
  have H1 := Lib.hid (And.intro hL3 (And.intro hl3 (And.intro ho1 (And.intro (show (Tryd.prog.info? 34).map (·.size) = some L3.toArray.size by rw [hl3]; exact info_msg) (show (Tryd.prog.info? 34).map (·.size) = some L3.length by rw [← List.size_toArray, hl3]; exact info_msg)))))
  clear hL3 hl3 ho1
  go_upto_region 11 with (with_reducible refine wpList_store_mid rfl 34 _ _ rfl w8.heap.size 0 L3.toArray rfl rfl (there_row (heap_alloc_new _ _) (by rw [H1.out.2.1]; exact Nat.le_of_ble_eq_true rfl)) H1.out.2.2.2.1 H1.out.2.2.1 ?_)
  generalize hW : World.setCells _ _ _ _ = w9
  have hb9 : Below w8.heap.size w8 w9 := by rw [← hW]; exact ((Below.refl _ _).alloc (Nat.le_refl _) _).trans (Lib.below_setCells_w (Nat.le_refl _) _ _ _)
  have HP13 := Lib.hid (show w9.rangeAt w8.heap.size 0 L3 by
    rw [← hW]
    refine World.rangeAt_setCells_same _ _ _ _ (there_row (heap_alloc_new _ _) ?_)
    rw [show L3.toArray.toList.length = 45 by have := H1.out.2.1; simpa using this]; exact Nat.le_of_ble_eq_true rfl)
  have hlt13 : w8.heap.size < w9.heap.size := by rw [← hW]; exact Nat.lt_of_lt_of_le (by simp) (Lib.below_setCells_w (B := 0) (Nat.zero_le w8.heap.size) L3.toArray.toList 0 (w8.alloc _)).size
  clear hW
  have hb69 : Below w6.heap.size w6 w9 := hb8.trans (hb9.mono hb8.size)
  have HOK1 := Lib.hid (show ∀ W, Below w9.heap.size w9 W → SnOk W m.snap X1 from fun W hb => (hok1.below hb9).below hb)
  replace hb1 := hb1.trans (hb69.mono hb1.size)
  obtain ⟨P13, hP13⟩ : ∃ P, w8.heap.size = P := ⟨_, rfl⟩
  rw [hP13] at HP13 hlt13 ⊢
  clear hP13 hok1 hb8 hb9
  replace HK7 := Lib.hid (show ∀ W, Below w9.heap.size w9 W → W.rangeAt P7 0 L1 from fun W hb => HK7.out W (hb69.trans (hb.mono hb69.size)))
  replace HK10 := Lib.hid (show ∀ W, Below w9.heap.size w9 W → W.rangeAt P10 0 L1 from fun W hb => HK10.out W (hb69.trans (hb.mono hb69.size)))
  have HK13 := Lib.hid (show ∀ W, Below w9.heap.size w9 W → W.rangeAt P13 0 L3 from fun W hb => HP13.out.keep hb hlt13)
  clear HP13 hlt13 hb69
  try simp only [Act.put]
  have HRp := Lib.hid (fun W hv => Reply_any ck hck cn B (by omega) W hv)
  have HAn := Lib.hid (fun W hv => Answer_any ck hck cn (Pl.replyS ck cn B) B (by unfold Pl.replyS; rw [Pl.sealS_len, Pl.nonceN_len]; omega) (openV_seal (Pl.nonceN_len _)) W hv)
  obtain ⟨kL, hkL⟩ : ∃ L, u8s ck = L := ⟨_, rfl⟩
  obtain ⟨rp, hrp⟩ : ∃ z, Pl.replyS ck cn B = z := ⟨_, rfl⟩
  rw [hkL, hrp] at HRp HAn
  rw [hkL] at HCs
  have HkL := Lib.hid (show kL.length = 32 by rw [← hkL, u8s_len, hck])
  clear hkL hrp
  have hch := (HCs.out _ hb1).drew
  refine wp_region_held_drew (S := (fun w' => ChS w' C cm cn kL)) (by kernel_rfl) (by exact hch) (fun hHeld => ?_)
  refine wpAnyH_take (i := 0) (v := ?_) rfl (by kernel_rfl) (by kernel_rfl) (by kernel_rfl) (fun _ _ _ h => h) (Or.inl ⟨by kernel_rfl, ?_⟩) hHeld ?_
  rotate_left
  · (intro w' hSw; obtain ⟨hS0, hS1, hS2⟩ := hSw; go_simp; try with_reducible rfl)
  simp only [Act.put, List.setIfInBounds_toArray, List.set_cons_zero, List.set_cons_succ, List.getElem_toArray, List.getElem_cons_succ, List.getElem_cons_zero]
  refine wpAnyH_take (i := 2) (v := ?_) rfl (by kernel_rfl) (by kernel_rfl) (by kernel_rfl) (fun _ _ _ h => h) (Or.inl ⟨by kernel_rfl, ?_⟩) hHeld ?_
  rotate_left
  · (intro w' hSw; obtain ⟨hS0, hS1, hS2⟩ := hSw; go_simp; try with_reducible rfl)
  simp only [Act.put, List.setIfInBounds_toArray, List.set_cons_zero, List.set_cons_succ, List.getElem_toArray, List.getElem_cons_succ, List.getElem_cons_zero]
  refine wpAnyH_take (i := 3) (v := ?_) rfl (by kernel_rfl) (by kernel_rfl) (by kernel_rfl) (fun _ _ _ h => h) (Or.inl ⟨by kernel_rfl, ?_⟩) hHeld ?_
  rotate_left
  · (intro w' hSw; obtain ⟨hS0, hS1, hS2⟩ := hSw; go_simp; try with_reducible rfl)
  simp only [Act.put, List.setIfInBounds_toArray, List.set_cons_zero, List.set_cons_succ, List.getElem_toArray, List.getElem_cons_succ, List.getElem_cons_zero]
  refine wpAnyH_take (i := 4) (v := ?_) rfl (by kernel_rfl) (by kernel_rfl) (by kernel_rfl) (fun _ _ _ h => h) (Or.inl ⟨by kernel_rfl, ?_⟩) hHeld ?_
  rotate_left
  · (intro w' hSw; obtain ⟨hS0, hS1, hS2⟩ := hSw; go_simp; try with_reducible rfl)
  simp only [Act.put, List.setIfInBounds_toArray, List.set_cons_zero, List.set_cons_succ, List.getElem_toArray, List.getElem_cons_succ, List.getElem_cons_zero]
  refine wpAnyH_take (i := 6) (v := ?_) rfl (by kernel_rfl) (by kernel_rfl) (by kernel_rfl) (fun _ _ _ h => h) (Or.inl ⟨by kernel_rfl, ?_⟩) hHeld ?_
  rotate_left
  · (intro w' hSw; obtain ⟨hS0, hS1, hS2⟩ := hSw; go_simp; try with_reducible rfl)
  simp only [Act.put, List.setIfInBounds_toArray, List.set_cons_zero, List.set_cons_succ, List.getElem_toArray, List.getElem_cons_succ, List.getElem_cons_zero]
  refine wpAnyH_take (i := 7) (v := ?_) rfl (by kernel_rfl) (by kernel_rfl) (by kernel_rfl) (fun _ _ _ h => h) (Or.inl ⟨by kernel_rfl, ?_⟩) hHeld ?_
  rotate_left
  · (intro w' hSw; obtain ⟨hS0, hS1, hS2⟩ := hSw; go_simp; try with_reducible rfl)
  simp only [Act.put, List.setIfInBounds_toArray, List.set_cons_zero, List.set_cons_succ, List.getElem_toArray, List.getElem_cons_succ, List.getElem_cons_zero]
  refine wpAnyH_take (i := 8) (v := ?_) rfl (by kernel_rfl) (by kernel_rfl) (by kernel_rfl) (fun _ _ _ h => h) (Or.inl ⟨by kernel_rfl, ?_⟩) hHeld ?_
  rotate_left
  · (intro w' hSw; obtain ⟨hS0, hS1, hS2⟩ := hSw; go_simp; try with_reducible rfl)
  simp only [Act.put, List.setIfInBounds_toArray, List.set_cons_zero, List.set_cons_succ, List.getElem_toArray, List.getElem_cons_succ, List.getElem_cons_zero]
  refine wpAnyH_take (i := 1) (v := .agg (kL).toArray) rfl (by kernel_rfl) (by kernel_rfl) (by kernel_rfl) (fun _ _ _ h => h) (yieldsIf_load_mid (by kernel_rfl) 24 _ rfl (C) (2) rfl kL _ (fun _ h => h.k) Tryd.underlying24 rfl (by rw [HkL.out]; exact info_k)) hHeld ?_
  simp only [Act.put, List.setIfInBounds_toArray, List.set_cons_zero, List.set_cons_succ, List.getElem_toArray, List.getElem_cons_succ, List.getElem_cons_zero]
  refine wpAnyH_take (i := 5) (v := .agg (kL).toArray) rfl (by kernel_rfl) (by kernel_rfl) (by kernel_rfl) (fun _ _ _ h => h) (yieldsIf_load_mid (by kernel_rfl) 24 _ rfl (C) (2) rfl kL _ (fun _ h => h.k) Tryd.underlying24 rfl (by rw [HkL.out]; exact info_k)) hHeld ?_
  simp only [Act.put, List.setIfInBounds_toArray, List.set_cons_zero, List.set_cons_succ, List.getElem_toArray, List.getElem_cons_succ, List.getElem_cons_zero]
  have hr9 := HRp.out w9.drew (HVh.out.below (HKB.out _ hb1).drew)
  refine wpAnyH_ready (rs := [9]) (by kernel_rfl) (by simp) (AllReadyH.cons rfl (fun K hK => ?_) AllReadyH.nil)
  go_simp
  with_reducible refine hr9.mono ?_
  clear hr9
  rintro e wa ⟨rfl, hba⟩
  replace hba : Below w9.heap.size w9 wa := ⟨hba.os, hba.tape, hba.output, hba.size, hba.block⟩
  have hba1 := hb1.trans (hba.mono hb1.size)
  refine hK.out _ _ (by exact HCs.out _ hba1) (fun hHeld => ?_)
  clear hK K
  (try simp only [Act.put, List.setIfInBounds_toArray, List.set_cons_zero, List.set_cons_succ, List.getElem_toArray, List.getElem_cons_succ, List.getElem_cons_zero])
  have hr10 := HAn.out wa (HVh.out.below (HKB.out _ hba1))
  refine wpAnyH_ready (rs := [10]) (by kernel_rfl) (by simp) (AllReadyH.cons rfl (fun K hK => ?_) AllReadyH.nil)
  go_simp
  with_reducible refine hr10.mono ?_
  clear hr10
  rintro e wb ⟨rfl, hbb⟩
  have hab := hba.trans (hbb.mono hba.size)
  replace hb1 := hb1.trans (hab.mono hb1.size)
  clear hba hba1 hbb
  refine hK.out _ _ (by exact HCs.out _ hb1) (fun hHeld => ?_)
  clear hK K
  (try simp only [Act.put, List.setIfInBounds_toArray, List.set_cons_zero, List.set_cons_succ, List.getElem_toArray, List.getElem_cons_succ, List.getElem_cons_zero])
  refine wpAnyH_take (i := 11) (v := ?_) rfl (by kernel_rfl) (by kernel_rfl) (by kernel_rfl) (fun _ _ _ h => h) (Or.inl ⟨by kernel_rfl, ?_⟩) hHeld ?_
  rotate_left
  · (intro w' hSw; (try dsimp only at hSw); go_simp; try with_reducible rfl)
  simp only [Act.put, List.setIfInBounds_toArray, List.set_cons_zero, List.set_cons_succ, List.getElem_toArray, List.getElem_cons_succ, List.getElem_cons_zero]
  refine wpAnyH_take (i := 12) (v := ?_) rfl (by kernel_rfl) (by kernel_rfl) (by kernel_rfl) (fun _ _ _ h => h) (Or.inl ⟨by kernel_rfl, ?_⟩) hHeld ?_
  rotate_left
  · (intro w' hSw; (try dsimp only at hSw); go_simp; try with_reducible rfl)
  simp only [Act.put, List.setIfInBounds_toArray, List.set_cons_zero, List.set_cons_succ, List.getElem_toArray, List.getElem_cons_succ, List.getElem_cons_zero]
  refine wpAnyH_take (i := 13) (v := ?_) rfl (by kernel_rfl) (by kernel_rfl) (by kernel_rfl) (fun _ _ _ h => h) (Or.inl ⟨by kernel_rfl, ?_⟩) hHeld ?_
  rotate_left
  · (intro w' hSw; (try dsimp only at hSw); go_simp; try with_reducible rfl)
  simp only [Act.put, List.setIfInBounds_toArray, List.set_cons_zero, List.set_cons_succ, List.getElem_toArray, List.getElem_cons_succ, List.getElem_cons_zero]
  refine wpAnyH_take (i := 14) (v := ?_) rfl (by kernel_rfl) (by kernel_rfl) (by kernel_rfl) (fun _ _ _ h => h) (Or.inl ⟨by kernel_rfl, ?_⟩) hHeld ?_
  rotate_left
  · (intro w' hSw; (try dsimp only at hSw); go_simp; try with_reducible rfl)
  simp only [Act.put, List.setIfInBounds_toArray, List.set_cons_zero, List.set_cons_succ, List.getElem_toArray, List.getElem_cons_succ, List.getElem_cons_zero]
  refine wpAnyH_take (i := 15) (v := ?_) rfl (by kernel_rfl) (by kernel_rfl) (by kernel_rfl) (fun _ _ _ h => h) (Or.inl ⟨by kernel_rfl, ?_⟩) hHeld ?_
  rotate_left
  · (intro w' hSw; (try dsimp only at hSw); go_simp; try with_reducible rfl)
  simp only [Act.put, List.setIfInBounds_toArray, List.set_cons_zero, List.set_cons_succ, List.getElem_toArray, List.getElem_cons_succ, List.getElem_cons_zero]
  refine wpAnyH_done (by kernel_rfl) ?_ _
  clear hHeld hch
  have hqe := HQe.out
  have hBB : (B == B) = true := by simp
  have r7 := HK7.out _ hab
  have r10 := HK10.out _ hab
  have r13 := HK13.out _ hab
  have rM := HK.out _ hb1
  have hi2 := H1.out.2.2.2.2
  have hiQ : (Tryd.prog.info? 26).map (·.size) = some L1.length := by rw [HQl.out]; exact info_ch
  go_wp2_with (first
    | (with_reducible refine wpList_load_mid_g (by with_unfolding_all rfl) 26 _ rfl P7 0 rfl L1 _ r7 Tryd.underlying26 rfl hiQ ?_)
    | (with_reducible refine wpList_load_mid_g (by with_unfolding_all rfl) 26 _ rfl P10 0 rfl L1 _ r10 Tryd.underlying26 rfl hiQ ?_)
    | (with_reducible refine wpList_load_mid_g (by with_unfolding_all rfl) 34 _ rfl P13 0 rfl L3 _ r13 Tryd.underlying34 rfl hi2 ?_)
    | (with_reducible refine wpList_load_mid_g (by with_unfolding_all rfl) 34 _ rfl M 0 rfl LA _ rM Tryd.underlying34 rfl hi1 ?_))
  rw [← HLL.out, ← H1.out.1]
  (with_reducible refine (HG.out.2.2 X1 _ (HOK.out.below (HKB.out _ hb1)) (HOK1.out _ hab)).mono ?_)
  rintro e wc ⟨v, rfl, rfl, hbc⟩
  rw [HLL.out, H1.out.1]
  replace hb1 := hb1.trans (hbc.mono hb1.size)
  clear hbc hab r7 r10 r13 rM
  go_wp2_with fail
  have hvz := HV.out.tab.keep (HKB.out _ hb1) (Nat.le_refl _)
  (with_reducible refine (awake44_any _ hvz).mono ?_)
  rintro e wz ⟨v, rfl, rfl, hbz⟩
  have hdz := (HKB.out _ hb1).trans (hbz.mono (HKB.out _ hb1).size)
  clear hbz
  go_wp2_with fail
  go_ret
  exact ⟨_, rfl, rfl, hdz⟩
-- FRAME
set_option maxRecDepth 100000 in
theorem wireSends_lifted (os : Os) (started : os.Started) (H : Type) (enc : TypeId × Value → H) :
    ReturnsInHanded {} Tryd.checked os 3 .any (fun w args => (Rows.wireSendsSpec.pre enc Tryd.prog Tryd.f3 [] false w args ∧ laidMetH Tryd.prog tabsW w) ∧ sizedMet enc Tryd.prog Tryd.f3 (OpenSpec.ofChange Rows.wireSendsSpec) false w args) (Rows.wireSendsSpec.post enc Tryd.prog Tryd.f3 false true false false) := by
  refine returnsInHanded_of_change_and (C := Tryd.checked) (X := fun w _ => laidMetH Tryd.prog tabsW w) (fun _ _ _ hh h => h.of_heap hh) own started (by kernel_rfl) Tryd.func3
    (ChangeSpec.witness_shaped (enc := enc) (C := Tryd.checked) (os := os) (X := fun w _ => laidMetH Tryd.prog tabsW w) false (World.doorLaid Tryd.prog 100 os) #[chanW, msgW] 8 rfl (World.shaped_of_RefB (by kernel_rfl) (by kernel_rfl)) (by kernel_rfl) (by kernel_rfl) (by kernel_rfl) (door_metW os _)) ?_
  intro W base args ds gs before hval0 hW hcnd hsz0 hL _
  have hvars := vnum_ofW hL
  have hval : ∀ (j : Nat) t v, Tryd.f3.params[j]? = some t → args[j]? = some v → Value.okWide Tryd.prog W .any base t v := hval0
  have hW' := hW
  obtain ⟨p, q, hA0, hV, rfl, hfz, hnd⟩ := hW
  have hA : DataW.TrodAll enc Tryd.prog W 0 (fun _ => true) true Tryd.f3.params.toList args.toList ds p := hA0
  have hsz : (DataW.weightsEach Tryd.prog (Tryd.f3.params.toList ++ Rows.wireSendsSpec.plain.varTypes Tryd.prog) (ds ++ gs)).all (· ≤ reachBytes) = true := hsz0
  rw [Tryd.params3] at hA hval hsz
  obtain ⟨v0, vs0, d0, ds0, p0, q0, hargs, rfl, rfl, h0, r0⟩ := trodAll_cons hA
  obtain ⟨v1, vs1, d1, ds1, p1, q1, rfl, rfl, rfl, h1, r1⟩ := trodAll_cons r0
  obtain ⟨rfl, rfl, rfl⟩ := trodAll_nil r1
  obtain rfl : args = #[v0, v1] := by cases args; simp_all
  obtain ⟨rfl, rfl⟩ := trodVars_none hV
  have k0 := h0
  have lt0 : ∀ x ∈ p0, x.block < W.heap.size := by obtain ⟨m, hm⟩ := k0; exact DataW.trod_lt m _ _ _ hm
  have hz0 : ∀ m ∈ d0.weights Tryd.prog 26, m ≤ reachBytes := fun m hm => by
    have h1 := List.all_eq_true.1 hsz m (DataW.weights_mem_each (j := 0) rfl rfl m hm)
    simpa using h1
  obtain ⟨cm0, cn0, ck0, rfl, eA0, eB0, eC0⟩ := open_chan (hval 0 26 v0 rfl rfl) h0 hz0
  have k1 := h1
  have lt1 : ∀ x ∈ p1, x.block < W.heap.size := by obtain ⟨m, hm⟩ := k1; exact DataW.trod_lt m _ _ _ hm
  have hz1 : ∀ m ∈ d1.weights Tryd.prog 34, m ≤ reachBytes := fun m hm => by
    have h1 := List.all_eq_true.1 hsz m (DataW.weights_mem_each (j := 1) rfl rfl m hm)
    simpa using h1
  obtain ⟨m1, X1, rfl, eA1, eB1, eC1⟩ := open_msg (hval 1 34 v1 rfl rfl) h1 hz1
  clear hA0 hval0 hsz0
  refine (wireSends_walk cm0 cn0 ck0 m1 X1 W (Nat.le_trans eA0 reach_le) eB0 eC0 eA1 eB1 eC1 hvars).mono fun e W' ⟨v, he, hv, bel⟩ => ?_
  subst he hv
  exact ⟨_, rfl, _, _, _, [], _, [], hW', trodAll_mk1 (shut_bool Tryd.underlying4 _), (trodAll_cons_mk (Below.trod laidOut (by kernel_rfl) (of_decide_eq_true (by kernel_rfl)) k0 bel lt0) (trodAll_cons_mk (Below.trod laidOut (by kernel_rfl) (of_decide_eq_true (by kernel_rfl)) k1 bel lt1) trodAll_mk0)), rfl, bel.frame _, fun h => by cases h⟩

theorem wireSends_row : Rows.WireSendsSaid :=
  OpenClaim.holds_of_wide 3 Tryd.f3 rfl rfl rfl rfl rfl rfl rfl ⟨rfl, rfl, rfl, rfl, rfl⟩ rfl rfl rfl rfl rfl (by kernel_rfl) Tryd.func3 (by kernel_rfl)
    (of_decide_eq_true (by kernel_rfl)) (by unfold Func.isWrapper; first | (rw [if_pos (by decide +kernel)]; kernel_rfl) | (rw [if_neg (by decide +kernel)]; exact ⟨rfl, rfl⟩))
    (fun os started H enc _ => wireSends_lifted os started H enc)

theorem wireSends_holds : Rows.WireSendsCardSaid :=
  Claim7.holds_tied_plain_at .later [] [.data, .data, .data, .data, .data, .sentinel, .sentinel] true (true, "d52ae2ddd743d3938e0413c9492b2d81ac0661b7004b97195e9d59de3f082b44") true
    wireSends_row (fun _ h => by cases h) (by kernel_rfl) (fun _ h => by cases h) wireSends_row_tie rfl ⟨rfl, rfl⟩ (by kernel_rfl) rfl
    (fun f fn hf hfn => by
      obtain rfl : f = 3 := Option.some.inj ((show Tryd.prog.funcNamed "hibernacle/hibernaclelaw44.WireSends" = some 3 by kernel_rfl).symm.trans hf) |>.symm
      obtain rfl : fn = Tryd.f3 := (Option.some.inj (Tryd.func3.symm.trans hfn)).symm
      exact ⟨by kernel_rfl, fun j t ht => by
        rw [Tryd.params3] at ht
        rcases j with _ | _ | _ | _ | j
        all_goals first
          | (simp at ht; done)
          | (have h3 := Option.some.inj ht; subst h3; exact (show Tryd.prog.wantsStandIn _ = false by kernel_rfl))⟩)
    (by kernel_rfl)
#print axioms wireSends_holds
end Go.Proofs.YtadoplgmeoghmaaDoor
