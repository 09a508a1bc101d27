/- The walks of session's nonce, head, Next, Reply and Answer. The walk of session's Send. -/
import Derived.Test.YtadoplgmeoghmaaDoorSealZ
import Derived.Test.YtadoplgmeoghmaaDoorPutW
namespace Go.Proofs.YtadoplgmeoghmaaDoor
open Go.RowKit
set_option linter.unusedVariables false
set_option linter.unusedSimpArgs false
theorem put_8 (n : Nat) (w : World) : Calls Tryd.prog 21 #[.int .u64 (n : Int), .int .i64 8] w (fun e w' => e = .returned (.string ⟨(Pl.putB n 8).toArray⟩) ∧ Below w.heap.size w w') := by
  refine (put_any n 8 w).mono ?_
  rintro e w' ⟨v, rfl, rfl, hb⟩
  exact ⟨rfl, hb⟩
theorem nonce_of (n : Nat) : nonceOf (Pl.putB n 8) = Pl.nonceN n := by
  have h := Pl.putB_len n 8
  unfold nonceOf Pl.nonceN
  rw [List.take_of_length_le (by omega), h]; rfl
set_option maxRecDepth 1000000 in
set_option maxHeartbeats 4000000 in
theorem snonce_any (n : Nat) (w : World) :
    Calls Tryd.prog 19 #[.int .u64 (n : Int)] w (fun e w' => e = .returned (.agg (u8s (Pl.nonceN n)).toArray) ∧ Below w.heap.size w w') := by
  go_enter Tryd.func19, Tryd.ntmps19
  go_upto_region 1 with (fail)
  generalize hX : w.alloc _ = X
  have HB := Lib.hid (show Below w.heap.size w X by rw [← hX]; exact (Below.refl _ _).alloc (Nat.le_refl _) _)
  have HR := Lib.hid (show X.heap[w.heap.size]? = some (.cells (u8s (List.replicate 12 0)).toArray 53 (0, 0)) by rw [← hX]; exact heap_alloc_new w _)
  clear hX
  go_wp2_with fail
  with_reducible refine (put_8 n X).mono ?_
  rintro _ X1 ⟨rfl, hb1⟩
  have hN := Nonce_any (Pl.putB n 8) X1
  rw [nonce_of] at hN
  obtain ⟨L, hL⟩ : ∃ L, u8s (Pl.nonceN n) = L := ⟨_, rfl⟩
  rw [hL] at hN
  have HN := Lib.hid hN
  have HL := Lib.hid hL
  have HLl := Lib.hid (show L.length = 12 by rw [← hL, u8s_len]; exact Pl.nonceN_len _)
  have HL1 := Lib.hid (show L.toArray.all (·.oneCell') = true by rw [← hL]; exact all_oneCell_toArray (u8s_one _))
  have HB1 := Lib.hid (HB.out.trans (hb1.mono HB.out.size))
  have HR1 := Lib.hid ((hb1.block _ (blk_lt HR.out)).trans HR.out)
  clear hN hL hb1 HB HR
  go_wp2_with fail
  with_reducible refine HN.out.mono ?_
  rintro _ X2 ⟨rfl, hb2⟩
  have HB2 := Lib.hid (HB1.out.trans (hb2.mono HB1.out.size))
  have HR2 := Lib.hid ((hb2.block _ (blk_lt HR1.out)).trans HR1.out)
  have HTH := Lib.hid (thereL (n := L.toArray.size) HR2.out (by rw [List.size_toArray, HLl.out]; simp [u8s_len]))
  clear hb2 HB1 HR1 HN
  go_wp2_with (with_reducible refine wpList_store_mid rfl 53 _ _ rfl w.heap.size 0 L.toArray rfl rfl HTH.out (by rw [List.size_toArray, HLl.out]; exact info_n12) HL1.out ?_)
  have hfin := heap_setCells_all HR2.out (vs := L) (by rw [HLl.out]; simp [u8s_len])
  refine bodyPost_ret (v := .agg L.toArray) (results_one rfl rfl (rangeL hfin) Tryd.underlying53 rfl (by rw [HLl.out]; exact info_n12)) rfl ?_
  rw [HL.out]
  exact ⟨rfl, HB2.out.trans (Lib.below_setCells_w (Nat.le_refl _) _ _ _)⟩
set_option maxRecDepth 1000000 in
set_option maxHeartbeats 4000000 in
theorem head_any (m : List UInt8) (n : Nat) (hm : m.length ≤ 4398046511104) (w : World) :
    Calls Tryd.prog 20 #[.string ⟨m.toArray⟩, .int .u64 (n : Int)] w (fun e w' => e = .returned (.string ⟨(Pl.headN m n).toArray⟩) ∧ Below w.heap.size w w') := by
  have hpl : (Pl.putB n 8).length ≤ 4398046511104 := by rw [Pl.putB_len]; decide
  go_enter Tryd.func20, Tryd.ntmps20
  go_wp2_with fail
  with_reducible refine (put_8 n w).mono ?_
  rintro _ X1 ⟨rfl, hb1⟩
  obtain ⟨q, hq⟩ : ∃ q, Pl.putB n 8 = q := ⟨_, rfl⟩
  have HR := Lib.hid (show Pl.headN m n = Pl.rowB [m, q] by unfold Pl.headN; rw [hq])
  rw [hq] at hpl ⊢
  clear hq
  have HB1 := Lib.hid hb1
  have HC := Lib.hid (row_2 X1.heap.size m q (X1.alloc (.cells #[.string ⟨m.toArray⟩, .string ⟨q.toArray⟩] 9)) (heap_alloc_new X1 _) hm hpl)
  clear hb1
  go_wp2_with fail
  with_reducible refine HC.out.mono ?_
  rintro _ X2 ⟨rfl, hb2⟩
  have HB2 := Lib.hid (HB1.out.trans (((Below.refl X1.heap.size X1).alloc (Nat.le_refl _) _ |>.trans (hb2.mono (by simp))).mono HB1.out.size))
  clear hb2 HC HB1
  go_wp2_with fail
  go_ret
  exact ⟨by rw [HR.out]; rfl, HB2.out⟩
set_option maxRecDepth 1000000 in
set_option maxHeartbeats 4000000 in
theorem Next_any (k : List UInt8) (hk : k.length = 32) (w : World) (hv : VHash w) :
    Calls Tryd.prog 22 #[.agg (u8s k).toArray] w (fun e w' => e = .returned (.agg (u8s (Pl.nextK k)).toArray) ∧ Below w.heap.size w w') := by
  go_enter Tryd.func22, Tryd.ntmps22
  go_upto_region 1 with (fail)
  generalize hX : (w.alloc _).alloc _ = X
  have HB := Lib.hid (show Below w.heap.size w X by rw [← hX]; exact ((Below.refl _ _).alloc (Nat.le_refl _) _).alloc (by simp) _)
  have HK := Lib.hid (show X.heap[w.heap.size]? = some (.cells (u8s k).toArray 24 (0, 0)) by rw [← hX]; exact (Below.heap_alloc _ _ _ (by simp)).trans (heap_alloc_new w _))
  have HR := Lib.hid (show X.heap[w.heap.size + 1]? = some (.cells (u8s (List.replicate 32 0)).toArray 24 (0, 0)) by rw [← hX]; exact heap_alloc_2 w _ _)
  have HV := Lib.hid (hv.below HB.out)
  clear hX hv
  obtain ⟨K1, hKe⟩ : ∃ K, w.heap.size = K := ⟨_, rfl⟩
  obtain ⟨R, hRe⟩ : ∃ K, K1 + 1 = K := ⟨_, rfl⟩
  rw [hKe] at HK HR ⊢
  rw [hRe] at HR ⊢
  have k0 : w.heap.size ≤ K1 := Nat.le_of_eq hKe
  have k1 : w.heap.size ≤ R := by omega
  clear hRe
  have HKe := Lib.hid hKe
  clear hKe
  have HC := Lib.hid (fun W (hA : W.heap[X.heap.size]? = some (.cells #[.string ⟨Pl.tNext.toArray⟩] 9 (0, 0))) hv => keyed_1 k hk X.heap.size Pl.tNext (by decide) W hA hv)
  obtain ⟨kL, hkL⟩ : ∃ L, u8s k = L := ⟨_, rfl⟩
  have HkL := Lib.hid (show kL.length = 32 by rw [← hkL, u8s_len, hk])
  rw [hkL] at HK HC ⊢
  obtain ⟨L, hL⟩ : ∃ L, u8s (Pl.nextK k) = L := ⟨_, rfl⟩
  rw [show u8s (Pl.keyedB k [Pl.tNext]) = L from hL] at HC
  have HL := Lib.hid hL
  have HLl := Lib.hid (show L.length = 32 by rw [← hL, u8s_len]; exact Pl.keyedB_len _ _)
  have HL1 := Lib.hid (show L.toArray.all (·.oneCell') = true by rw [← hL]; exact all_oneCell_toArray (u8s_one _))
  have hb0 := (Below.refl X.heap.size X).alloc (Nat.le_refl _) (.cells #[.string ⟨#[110, 101, 120, 116]⟩] 9)
  have HC1 := Lib.hid (HC.out _ (heap_alloc_new X (.cells #[.string ⟨#[110, 101, 120, 116]⟩] 9)) (HV.out.below hb0))
  have HB1 := Lib.hid (HB.out.trans (hb0.mono HB.out.size))
  have HR1 := Lib.hid ((hb0.block _ (blk_lt HR.out)).trans HR.out)
  clear hkL hL hb0 HC
  go_wp2_with (with_reducible refine wpList_load_mid rfl 24 _ rfl K1 0 rfl kL _ (rangeL HK.out) Tryd.underlying24 rfl (by rw [HkL.out]; exact info_k) ?_)
  with_reducible refine HC1.out.mono ?_
  rintro _ X2 ⟨rfl, hb2⟩
  have HB2 := Lib.hid (HB1.out.trans (hb2.mono HB1.out.size))
  have HR2 := Lib.hid ((hb2.block _ (blk_lt HR1.out)).trans HR1.out)
  have HTH := Lib.hid (thereL (n := L.toArray.size) HR2.out (by rw [List.size_toArray, HLl.out]; simp [u8s_len]))
  clear hb2 HC1 HB1 HR1 HK HB HR HV
  go_wp2_with (with_reducible refine wpList_store_mid rfl 24 _ _ rfl R 0 L.toArray rfl rfl HTH.out (by rw [List.size_toArray, HLl.out]; exact info_k) HL1.out ?_)
  have hfin := heap_setCells_all HR2.out (vs := L) (by rw [HLl.out]; simp [u8s_len])
  refine bodyPost_ret (v := .agg L.toArray) (results_one rfl rfl (rangeL hfin) Tryd.underlying24 rfl (by rw [HLl.out]; exact info_k)) rfl ?_
  rw [HL.out]
  exact ⟨rfl, HB2.out.trans (Lib.below_setCells_w k1 _ _ _)⟩
set_option maxRecDepth 1000000 in
set_option maxHeartbeats 4000000 in
theorem Reply_any (k : List UInt8) (hk : k.length = 32) (n : Nat) (data : List UInt8) (hd : data.length ≤ 1099511627776) (w : World) (hv : VHash w) :
    Calls Tryd.prog 11 #[.agg (u8s k).toArray, .int .u64 (n : Int), .string ⟨data.toArray⟩] w (fun e w' => e = .returned (.string ⟨(Pl.replyS k n data).toArray⟩) ∧ Below w.heap.size w w') := by
  go_enter Tryd.func11, Tryd.ntmps11
  go_upto_region 1 with (fail)
  generalize hX : w.alloc _ = X
  have HB := Lib.hid (show Below w.heap.size w X by rw [← hX]; exact (Below.refl _ _).alloc (Nat.le_refl _) _)
  have HK := Lib.hid (show X.heap[w.heap.size]? = some (.cells (u8s k).toArray 24 (0, 0)) by rw [← hX]; exact heap_alloc_new w _)
  have HV := Lib.hid (hv.below HB.out)
  clear hX hv
  have HC := Lib.hid (fun W (hA : W.heap[X.heap.size]? = some (.cells #[.string ⟨Pl.tReply.toArray⟩] 9 (0, 0))) hv => keyed_1 k hk X.heap.size Pl.tReply (by decide) W hA hv)
  obtain ⟨kL, hkL⟩ : ∃ L, u8s k = L := ⟨_, rfl⟩
  have HkL := Lib.hid (show kL.length = 32 by rw [← hkL, u8s_len, hk])
  rw [hkL] at HK HC ⊢
  obtain ⟨kr, hkr⟩ : ∃ z, Pl.keyedB k [Pl.tReply] = z := ⟨_, rfl⟩
  have hkrl : kr.length = 32 := by rw [← hkr]; exact Pl.keyedB_len _ _
  obtain ⟨L, hL⟩ : ∃ L, u8s kr = L := ⟨_, rfl⟩
  rw [hkr, hL] at HC
  obtain ⟨q, hq⟩ : ∃ q, Pl.putB n 8 = q := ⟨_, rfl⟩
  have hql : q.length = 8 := by rw [← hq]; exact Pl.putB_len _ _
  obtain ⟨no, hno⟩ : ∃ z, Pl.nonceN n = z := ⟨_, rfl⟩
  have hnol : no.length = 12 := by rw [← hno]; exact Pl.nonceN_len _
  have HN := Lib.hid (fun W => snonce_any n W)
  rw [hno] at HN
  have HP := Lib.hid (fun W => put_8 n W)
  rw [hq] at HP
  have HS := Lib.hid (fun W hv => Seal_any kr no q data hkrl hnol (by omega) hd W hv)
  rw [hL] at HS
  have HR := Lib.hid (show Pl.replyS k n data = Pl.sealS kr no q data by unfold Pl.replyS; rw [hkr, hno, hq])
  have hb0 := (Below.refl X.heap.size X).alloc (Nat.le_refl _) (.cells #[.string ⟨#[114, 101, 112, 108, 121]⟩] 9)
  have HC1 := Lib.hid (HC.out _ (heap_alloc_new X (.cells #[.string ⟨#[114, 101, 112, 108, 121]⟩] 9)) (HV.out.below hb0))
  have HB1 := Lib.hid (HB.out.trans (hb0.mono HB.out.size))
  have HV1 := Lib.hid (HV.out.below hb0)
  clear hkL hL hb0 HC hq hno hkr hkrl hnol hql
  go_wp2_with (with_reducible refine wpList_load_mid rfl 24 _ rfl w.heap.size 0 rfl kL _ (rangeL HK.out) Tryd.underlying24 rfl (by rw [HkL.out]; exact info_k) ?_)
  with_reducible refine HC1.out.mono ?_
  rintro _ X2 ⟨rfl, hb2⟩
  have HB2 := Lib.hid (HB1.out.trans (hb2.mono HB1.out.size))
  have HV2 := Lib.hid (HV1.out.below hb2)
  have HC2 := Lib.hid (HN.out X2)
  clear hb2 HC1 HB1 HK HB HV HV1
  go_wp2_with fail
  with_reducible refine HC2.out.mono ?_
  rintro _ X3 ⟨rfl, hb3⟩
  have HB3 := Lib.hid (HB2.out.trans (hb3.mono HB2.out.size))
  have HV3 := Lib.hid (HV2.out.below hb3)
  have HC3 := Lib.hid (HP.out X3)
  clear hb3 HC2 HB2 HV2
  go_wp2_with fail
  with_reducible refine HC3.out.mono ?_
  rintro _ X4 ⟨rfl, hb4⟩
  have HB4 := Lib.hid (HB3.out.trans (hb4.mono HB3.out.size))
  have HV4 := Lib.hid (HV3.out.below hb4)
  have HC4 := Lib.hid (HS.out X4 HV4.out)
  clear hb4 HC3 HB3 HV3
  go_wp2_with fail
  with_reducible refine HC4.out.mono ?_
  rintro _ X5 ⟨rfl, hb5⟩
  have HB5 := Lib.hid (HB4.out.trans (hb5.mono HB4.out.size))
  clear hb5 HC4 HB4 HV4
  go_wp2_with fail
  go_ret
  exact ⟨by rw [HR.out]; rfl, HB5.out⟩
set_option maxRecDepth 1000000 in
set_option maxHeartbeats 4000000 in
theorem Answer_any (k : List UInt8) (hk : k.length = 32) (n : Nat) (frame data : List UInt8) (hf : frame.length ≤ 1099511627776) (ho : openV (Pl.keyedB k [Pl.tReply]) (Pl.putB n 8) frame = .tuple #[.string ⟨data.toArray⟩, .int .i64 0]) (w : World) (hv : VHash w) :
    Calls Tryd.prog 10 #[.agg (u8s k).toArray, .int .u64 (n : Int), .string ⟨frame.toArray⟩] w (fun e w' => e = .returned (.tuple #[.string ⟨data.toArray⟩, .int .i64 0]) ∧ Below w.heap.size w w') := by
  go_enter Tryd.func10, Tryd.ntmps10
  go_upto_region 1 with (fail)
  generalize hX : w.alloc _ = X
  have HB := Lib.hid (show Below w.heap.size w X by rw [← hX]; exact (Below.refl _ _).alloc (Nat.le_refl _) _)
  have HK := Lib.hid (show X.heap[w.heap.size]? = some (.cells (u8s k).toArray 24 (0, 0)) by rw [← hX]; exact heap_alloc_new w _)
  have HV := Lib.hid (hv.below HB.out)
  clear hX hv
  have HC := Lib.hid (fun W (hA : W.heap[X.heap.size]? = some (.cells #[.string ⟨Pl.tReply.toArray⟩] 9 (0, 0))) hv => keyed_1 k hk X.heap.size Pl.tReply (by decide) W hA hv)
  obtain ⟨kL, hkL⟩ : ∃ L, u8s k = L := ⟨_, rfl⟩
  have HkL := Lib.hid (show kL.length = 32 by rw [← hkL, u8s_len, hk])
  rw [hkL] at HK HC ⊢
  obtain ⟨kr, hkr⟩ : ∃ z, Pl.keyedB k [Pl.tReply] = z := ⟨_, rfl⟩
  have hkrl : kr.length = 32 := by rw [← hkr]; exact Pl.keyedB_len _ _
  obtain ⟨L, hL⟩ : ∃ L, u8s kr = L := ⟨_, rfl⟩
  rw [hkr, hL] at HC
  obtain ⟨q, hq⟩ : ∃ q, Pl.putB n 8 = q := ⟨_, rfl⟩
  have hql : q.length = 8 := by rw [← hq]; exact Pl.putB_len _ _
  have HP := Lib.hid (fun W => put_8 n W)
  rw [hq] at HP
  have HO := Lib.hid (fun W hv => Open_any kr q frame hkrl (by omega) hf W hv)
  rw [hL] at HO
  rw [hkr, hq] at ho
  rw [ho] at HO
  have hb0 := (Below.refl X.heap.size X).alloc (Nat.le_refl _) (.cells #[.string ⟨#[114, 101, 112, 108, 121]⟩] 9)
  have HC1 := Lib.hid (HC.out _ (heap_alloc_new X (.cells #[.string ⟨#[114, 101, 112, 108, 121]⟩] 9)) (HV.out.below hb0))
  have HB1 := Lib.hid (HB.out.trans (hb0.mono HB.out.size))
  have HV1 := Lib.hid (HV.out.below hb0)
  clear hkL hL hb0 HC hq hkr hkrl hql ho
  go_wp2_with (with_reducible refine wpList_load_mid rfl 24 _ rfl w.heap.size 0 rfl kL _ (rangeL HK.out) Tryd.underlying24 rfl (by rw [HkL.out]; exact info_k) ?_)
  with_reducible refine HC1.out.mono ?_
  rintro _ X2 ⟨rfl, hb2⟩
  have HB2 := Lib.hid (HB1.out.trans (hb2.mono HB1.out.size))
  have HV2 := Lib.hid (HV1.out.below hb2)
  have HC2 := Lib.hid (HP.out X2)
  clear hb2 HC1 HB1 HK HB HV HV1
  go_wp2_with fail
  with_reducible refine HC2.out.mono ?_
  rintro _ X3 ⟨rfl, hb3⟩
  have HB3 := Lib.hid (HB2.out.trans (hb3.mono HB2.out.size))
  have HV3 := Lib.hid (HV2.out.below hb3)
  have HC3 := Lib.hid (HO.out X3 HV3.out)
  clear hb3 HC2 HB2 HV2
  go_wp2_with fail
  with_reducible refine HC3.out.mono ?_
  rintro _ X4 ⟨rfl, hb4⟩
  have HB4 := Lib.hid (HB3.out.trans (hb4.mono HB3.out.size))
  clear hb4 HC3 HB3 HV3
  go_wp2_with fail
  go_ret2
  exact ⟨rfl, HB4.out⟩
end Go.Proofs.YtadoplgmeoghmaaDoor
namespace Go.Proofs.YtadoplgmeoghmaaDoor
open Go.RowKit
set_option linter.unusedVariables false
set_option linter.unusedSimpArgs false
/-- A channel's cells. -/
def chL (m : List UInt8) (n : Nat) (k : List UInt8) : List Value := .string ⟨m.toArray⟩ :: .int .u64 (n : Int) :: u8s k
theorem chL_len {m : List UInt8} {n : Nat} {k : List UInt8} (hk : k.length = 32) : (chL m n k).length = 34 := by simp [chL, u8s_len, hk]
theorem chL_one (m : List UInt8) (n : Nat) (k : List UInt8) : ∀ v ∈ chL m n k, v.oneCell' = true := by
  intro v hv
  simp only [chL, List.mem_cons] at hv
  rcases hv with rfl | rfl | hv
  · rfl
  · rfl
  · exact u8s_one _ v hv
theorem info_ch : (Tryd.prog.info? 26).map (·.size) = some 34 := by kernel_rfl
def noCh : List Value := chL [] 0 (List.replicate 32 0)
theorem build_ch (m : List UInt8) (n : Nat) (k : List UInt8) (hk : k.length = 32) (w : World) :
    (Instr.build 26 #[(0, .string ⟨m.toArray⟩), (1, .int .u64 (n : Int)), (2, .agg (u8s k).toArray)]).run Tryd.prog w = .ok (.agg (chL m n k).toArray) w := by
  obtain ⟨c0, c1, c2, c3, c4, c5, c6, c7, c8, c9, c10, c11, c12, c13, c14, c15, c16, c17, c18, c19, c20, c21, c22, c23, c24, c25, c26, c27, c28, c29, c30, c31, rfl⟩ : ∃ c0 c1 c2 c3 c4 c5 c6 c7 c8 c9 c10 c11 c12 c13 c14 c15 c16 c17 c18 c19 c20 c21 c22 c23 c24 c25 c26 c27 c28 c29 c30 c31, k = [c0, c1, c2, c3, c4, c5, c6, c7, c8, c9, c10, c11, c12, c13, c14, c15, c16, c17, c18, c19, c20, c21, c22, c23, c24, c25, c26, c27, c28, c29, c30, c31] := by
    match k, hk with
    | [c0, c1, c2, c3, c4, c5, c6, c7, c8, c9, c10, c11, c12, c13, c14, c15, c16, c17, c18, c19, c20, c21, c22, c23, c24, c25, c26, c27, c28, c29, c30, c31], _ => exact ⟨_, _, _, _, _, _, _, _, _, _, _, _, _, _, _, _, _, _, _, _, _, _, _, _, _, _, _, _, _, _, _, _, rfl⟩
  exact run_build w 26 _ _ (by kernel_rfl)
theorem build_noch {Z : List Value} (hZ : noCh = Z) (w : World) : (Instr.build 26 #[]).run Tryd.prog w = .ok (.agg Z.toArray) w := by
  subst hZ
  exact run_build w 26 _ _ (by kernel_rfl)
theorem wpList_build_0 {out : Value} {T : TypeId} {ops : Array Oper} {rest : List Oper} {op : Oper} {a : Act} {w : World} {Q : Exit → Act → World → Prop} (hb : ∀ W, (Instr.build T #[]).run Tryd.prog W = .ok out W) (hgd : op.guard = none) (ho : op.op = .build T #[])
    (h : wpList Tryd.prog ops Q rest (a.put op.dst out) w) : wpList Tryd.prog ops Q (op :: rest) a w :=
  wpList_plain hgd fun _ hK => by
    unfold Oper.wp execOp
    simp only [ho, Array.map_empty, Sem.run_bind, hb, Result.andThen_ok, Sem.run_pure]
    exact hK _ _ h
theorem exec_build3 {a : Act} {op : Oper} {r0 r1 r2 : Nat} {T : TypeId} {v0 v1 v2 v : Value} (hb : ∀ W, (Instr.build T #[(0, v0), (1, v1), (2, v2)]).run Tryd.prog W = .ok v W)
    (ho : op.op = .build T #[(0, .tmp r0), (1, .tmp r1), (2, .tmp r2)]) (h0 : a.eval (.tmp r0) = v0) (h1 : a.eval (.tmp r1) = v1) (h2 : a.eval (.tmp r2) = v2) (w : World) :
    (execOp a.eval op).run Tryd.prog w = .ok (.value v) w := by
  unfold execOp
  simp only [ho, List.map_toArray, List.map_cons, List.map_nil, h0, h1, h2, Sem.run_bind, hb, Result.andThen_ok, Sem.run_pure]
theorem results_cst {fn : Func} {tmps : Array Value} {w : World} {a b c B : Nat} {T : TypeId} {cs : List Value} {d : TypeDesc} (hf : fn.results = #[.cell a T, .tmp b, .tmp c]) (ha : tmps[a]?.getD undef = .pointer (some ⟨B, 0, none⟩)) (hc : w.rangeAt B 0 cs) (hu : Tryd.prog.underlying T = some d) (hd : d.isRow = true) (hi : (Tryd.prog.info? T).map (·.size) = some cs.length) {x y : Value} (hx : tmps.getD b undef = x) (hy : tmps.getD c undef = y) :
    (results fn tmps).run Tryd.prog w = .ok (.tuple #[.agg cs.toArray, x, y]) w := by
  subst hx
  subst hy
  have h := run_loadVar_mid (P := Tryd.prog) w B 0 T cs d hc hu hd hi
  simp [results, hf, ha, asAddr, h, Sem.run_bind]
/-- A channel's box. -/
structure ChS (W : World) (C : Nat) (m : List UInt8) (n : Nat) (kL : List Value) : Prop where
  a : W.cell? ⟨C, 0, none⟩ = some (.string ⟨m.toArray⟩)
  b : W.cell? ⟨C, 1, none⟩ = some (.int .u64 (n : Int))
  k : W.rangeAt C 2 kL
theorem ChS.of {W : World} {C : Nat} {m : List UInt8} {n : Nat} {k : List UInt8} (h : W.heap[C]? = some (.cells (chL m n k).toArray 26 (0, 0))) : ChS W C m n (u8s k) := by
  refine ⟨by rw [cell_row W C 0 _ _ h]; rfl, by rw [cell_row W C 1 _ _ h]; rfl, fun j v hv => ?_⟩
  rw [cell_row W C _ _ _ h, List.getElem?_toArray, Nat.add_comm 2 j]
  simpa [chL] using hv
theorem ChS.keep {W W' : World} {C N : Nat} {m : List UInt8} {n : Nat} {kL : List Value} (h : ChS W C m n kL) (hb : Below N W W') (hn : C < N) : ChS W' C m n kL :=
  ⟨(hb.cell (p := ⟨C, 0, none⟩) hn).trans h.a, (hb.cell (p := ⟨C, 1, none⟩) hn).trans h.b, h.k.keep hb hn⟩
theorem ChS.drew {W : World} {C : Nat} {m : List UInt8} {n : Nat} {kL : List Value} (h : ChS W C m n kL) : ChS W.drew C m n kL := ⟨h.a, h.b, h.k⟩
/-- The refusals: the message is too long, or the count is at its end. -/
def sendNo (e : Int) : Value := .tuple #[.agg noCh.toArray, .string ⟨#[]⟩, .int .i64 e]
set_option maxRecDepth 1000000 in
set_option maxHeartbeats 4000000 in
theorem send_bad (m : List UInt8) (n : Nat) (k data : List UInt8) (hk : k.length = 32) (hd : data.length ≤ 1099511627776) (e : Int) (he : e = if 65536 < data.length then 6 else 2) (hn : 65536 < data.length ∨ n = 18446744073709551615) (w : World) :
    Calls Tryd.prog 7 #[.agg (chL m n k).toArray, .string ⟨data.toArray⟩] w (fun x w' => x = .returned (sendNo e) ∧ Below w.heap.size w w') := by
  obtain ⟨Z, hZ⟩ : ∃ Z, noCh = Z := ⟨_, rfl⟩
  have HB0 := Lib.hid (build_noch hZ)
  have HZl := Lib.hid (show Z.length = 34 by rw [← hZ]; rfl)
  have HZ1 := Lib.hid (show Z.toArray.all (·.oneCell') = true by rw [← hZ]; exact all_oneCell_toArray (chL_one _ _ _))
  have HZe := Lib.hid hZ
  clear hZ
  go_enter Tryd.func7, Tryd.ntmps7
  go_upto_region 1 with (fail)
  generalize hX : (w.alloc _).alloc _ = X
  have HB := Lib.hid (show Below w.heap.size w X by rw [← hX]; exact ((Below.refl _ _).alloc (Nat.le_refl _) _).alloc (by simp) _)
  have HC := Lib.hid (show X.heap[w.heap.size]? = some (.cells (chL m n k).toArray 26 (0, 0)) by rw [← hX]; exact (Below.heap_alloc _ _ _ (by simp)).trans (heap_alloc_new w _))
  have HR := Lib.hid (show X.heap[w.heap.size + 1]? = some (.cells Z.toArray 26 (0, 0)) by rw [← hX, ← HZe.out]; exact heap_alloc_2 w _ _)
  clear hX
  have HTH := Lib.hid (thereL (n := Z.toArray.size) HR.out (Nat.le_refl _))
  have hfin := Lib.hid (heap_setCells_all (vs := Z) HR.out rfl)
  by_cases hl : 65536 < data.length
  · rw [if_pos hl] at he
    subst he
    have f1 : (65536 : Int) < (data.length : Int) := by omega
    go_wp2_with (first
      | (with_reducible refine wpList_build_0 HB0.out rfl rfl ?_)
      | (with_reducible refine wpList_store_mid rfl 26 _ _ rfl (w.heap.size + 1) 0 Z.toArray rfl rfl HTH.out (by rw [List.size_toArray, HZl.out]; exact info_ch) HZ1.out ?_))
    refine bodyPost_ret (v := .tuple #[.agg Z.toArray, .string ⟨#[]⟩, .int .i64 6]) (results_cst rfl rfl (rangeL hfin.out) Tryd.underlying26 rfl (by rw [HZl.out]; exact info_ch) rfl rfl) rfl ?_
    · exact ⟨by unfold sendNo; rw [HZe.out], HB.out.trans (Lib.below_setCells_w (by omega) _ _ _)⟩
  · rw [if_neg hl] at he
    subst he
    obtain rfl : n = 18446744073709551615 := by omega
    have f1 : ¬ (65536 : Int) < (data.length : Int) := by omega
    have hc1 := (ChS.of HC.out).b
    go_wp2_with (first
      | (with_reducible refine wpList_build_0 HB0.out rfl rfl ?_)
      | (with_reducible refine wpList_store_mid rfl 26 _ _ rfl (w.heap.size + 1) 0 Z.toArray rfl rfl HTH.out (by rw [List.size_toArray, HZl.out]; exact info_ch) HZ1.out ?_))
    refine bodyPost_ret (v := .tuple #[.agg Z.toArray, .string ⟨#[]⟩, .int .i64 2]) (results_cst rfl rfl (rangeL hfin.out) Tryd.underlying26 rfl (by rw [HZl.out]; exact info_ch) rfl rfl) rfl ?_
    · exact ⟨by unfold sendNo; rw [HZe.out], HB.out.trans (Lib.below_setCells_w (by omega) _ _ _)⟩
/-- What Send tells. -/
def sendV (m : List UInt8) (n : Nat) (k data : List UInt8) : Value := .tuple #[.agg (chL m (n + 1) (Pl.nextK k)).toArray, .string ⟨(Pl.frameS m n k data).toArray⟩, .int .i64 0]
theorem row_3 (A : Nat) (x y z : List UInt8) (w : World) (hA : w.heap[A]? = some (.cells #[.string ⟨x.toArray⟩, .string ⟨y.toArray⟩, .string ⟨z.toArray⟩] 9 (0, 0))) (hx : x.length ≤ 4398046511104) (hy : y.length ≤ 4398046511104) (hz : z.length ≤ 4398046511104) :
    Calls Tryd.prog 13 #[.slice (some ⟨A, 0, none⟩) 3 3] w (fun e w' => e = .returned (.string ⟨(Pl.rowB [x, y, z]).toArray⟩) ∧ Below w.heap.size w w') := by
  refine (row_any (some ⟨A, 0, none⟩) 3 3 [x, y, z] w (rowS (l := [x, y, z]) (by simpa [strs] using hA)) (by decide) (by simp [sumLen]; omega)).mono ?_
  rintro e w' ⟨v, rfl, rfl, hb⟩
  exact ⟨rfl, hb⟩
set_option maxRecDepth 1000000 in
set_option maxHeartbeats 8000000 in
theorem send_good (m : List UInt8) (n : Nat) (k data : List UInt8) (hk : k.length = 32) (hm : m.length ≤ 1099511627776) (hd : data.length ≤ 65536) (hn : n < 18446744073709551615) (w : World) (hv : VHash w) :
    Calls Tryd.prog 7 #[.agg (chL m n k).toArray, .string ⟨data.toArray⟩] w (fun x w' => x = .returned (sendV m n k data) ∧ Below w.heap.size w w') := by
  go_enter Tryd.func7, Tryd.ntmps7
  go_upto_region 1 with (fail)
  generalize hX : (w.alloc _).alloc _ = X
  have HB := Lib.hid (show Below w.heap.size w X by rw [← hX]; exact ((Below.refl _ _).alloc (Nat.le_refl _) _).alloc (by simp) _)
  have HC := Lib.hid (show X.heap[w.heap.size]? = some (.cells (chL m n k).toArray 26 (0, 0)) by rw [← hX]; exact (Below.heap_alloc _ _ _ (by simp)).trans (heap_alloc_new w _))
  have HR := Lib.hid (show X.heap[w.heap.size + 1]? = some (.cells noCh.toArray 26 (0, 0)) by rw [← hX]; exact heap_alloc_2 w _ _)
  have HV := Lib.hid (hv.below HB.out)
  clear hX hv
  obtain ⟨C, hCe⟩ : ∃ K, w.heap.size = K := ⟨_, rfl⟩
  obtain ⟨R, hRe⟩ : ∃ K, C + 1 = K := ⟨_, rfl⟩
  rw [hCe] at HC HR ⊢
  rw [hRe] at HR ⊢
  have k0 : w.heap.size ≤ R := by omega
  have k1 : C < R := by omega
  clear hRe
  have HCe := Lib.hid hCe
  clear hCe
  have hch0 := ChS.of HC.out
  have HCl := Lib.hid (blk_lt HC.out)
  obtain ⟨kL, hkL⟩ : ∃ L, u8s k = L := ⟨_, rfl⟩
  have HkL := Lib.hid (show kL.length = 32 by rw [← hkL, u8s_len, hk])
  rw [hkL] at hch0
  obtain ⟨ks, hks⟩ : ∃ z, Pl.keyedB k [Pl.tSend] = z := ⟨_, rfl⟩
  have hksl : ks.length = 32 := by rw [← hks]; exact Pl.keyedB_len _ _
  obtain ⟨sL, hsL⟩ : ∃ L, u8s ks = L := ⟨_, rfl⟩
  have HK := Lib.hid (fun A W hA hv => keyed_1 k hk A Pl.tSend (by decide) W hA hv)
  rw [hkL, hks, hsL] at HK
  obtain ⟨no, hno⟩ : ∃ z, Pl.nonceN n = z := ⟨_, rfl⟩
  have hnol : no.length = 12 := by rw [← hno]; exact Pl.nonceN_len _
  have HN := Lib.hid (fun W => snonce_any n W)
  rw [hno] at HN
  obtain ⟨hd_, hhd⟩ : ∃ z, Pl.headN m n = z := ⟨_, rfl⟩
  have hhdl : hd_.length ≤ 4398046511104 := by
    have h1 := Pl.lenB_len m.length
    have h2 := Pl.lenB_len (Pl.putB n 8).length
    have h3 := Pl.putB_len n 8
    rw [← hhd]; unfold Pl.headN; simp [Pl.rowB]; omega
  have HH := Lib.hid (fun W => head_any m n (by omega) W)
  rw [hhd] at HH
  obtain ⟨bx, hbx⟩ : ∃ z, Pl.sealS ks no hd_ data = z := ⟨_, rfl⟩
  have hbxl : bx.length ≤ 1099511627776 := by rw [← hbx, Pl.sealS_len]; omega
  have HS := Lib.hid (fun W hv => Seal_any ks no hd_ data hksl hnol hhdl (by omega) W hv)
  rw [hsL, hbx] at HS
  obtain ⟨q, hq⟩ : ∃ q, Pl.putB n 8 = q := ⟨_, rfl⟩
  have hql : q.length = 8 := by rw [← hq]; exact Pl.putB_len _ _
  have HP := Lib.hid (fun W => put_8 n W)
  rw [hq] at HP
  obtain ⟨fr, hfr⟩ : ∃ z, Pl.rowB [m, q, bx] = z := ⟨_, rfl⟩
  have HRw := Lib.hid (fun A W hA => row_3 A m q bx W hA (by omega) (by omega) (by omega))
  rw [hfr] at HRw
  obtain ⟨kn, hkn⟩ : ∃ z, Pl.nextK k = z := ⟨_, rfl⟩
  have hknl : kn.length = 32 := by rw [← hkn]; exact Pl.keyedB_len _ _
  have HNx := Lib.hid (fun W hv => Next_any k hk W hv)
  rw [hkL, hkn] at HNx
  have HO := Lib.hid (show sendV m n k data = .tuple #[.agg (chL m (n + 1) kn).toArray, .string ⟨fr.toArray⟩, .int .i64 0] by unfold sendV Pl.frameS; rw [hkn, hks, hno, hhd, hbx, hq, hfr])
  obtain ⟨n1, hn1⟩ : ∃ n1, n + 1 = n1 := ⟨_, rfl⟩
  have en : IntKind.u64.wrap ((n : Int) + 1) = (n1 : Int) := by rw [IntKind.wrap_u64]; omega
  rw [hn1] at HO
  have HBc := Lib.hid (build_ch m n1 kn hknl)
  obtain ⟨L, hL⟩ : ∃ L, chL m n1 kn = L := ⟨_, rfl⟩
  have HLl := Lib.hid (show L.length = 34 by rw [← hL]; exact chL_len hknl)
  have HL1 := Lib.hid (show L.toArray.all (·.oneCell') = true by rw [← hL]; exact all_oneCell_toArray (chL_one _ _ _))
  rw [hL] at HO HBc
  obtain ⟨knL, hknL⟩ : ∃ L, u8s kn = L := ⟨_, rfl⟩
  rw [hknL] at HNx HBc
  clear hkL hks hsL hno hhd hbx hq hfr hkn hn1 hL hknL hhdl hnol hksl hql hknl
  have f1 : ¬ (65536 : Int) < (data.length : Int) := by omega
  have f2 : ((n : Int) == 18446744073709551615) = false := by simp; omega
  have hc1 := hch0.b
  go_wp2_with fail
  clear hc1
  have HB0 := Lib.hid HB.out.drew
  have hch := hch0.drew
  refine wp_region_held_drew (S := (fun w' => ChS w' C m n kL)) (by kernel_rfl) (by exact hch) (fun hHeld => ?_)
  refine wpAnyH_take (i := 0) (v := ?_) rfl (by kernel_rfl) (by kernel_rfl) (by kernel_rfl) (fun _ _ _ h => h) (Or.inl ⟨by kernel_rfl, ?_⟩) hHeld ?_
  rotate_left
  · (intro w' hSw; obtain ⟨hS0, hS1, hS2⟩ := hSw; go_simp; try with_reducible rfl)
  simp only [Act.put, List.setIfInBounds_toArray, List.set_cons_zero, List.set_cons_succ, List.getElem_toArray, List.getElem_cons_succ, List.getElem_cons_zero]
  refine wpAnyH_take (i := 4) (v := ?_) rfl (by kernel_rfl) (by kernel_rfl) (by kernel_rfl) (fun _ _ _ h => h) (Or.inl ⟨by kernel_rfl, ?_⟩) hHeld ?_
  rotate_left
  · (intro w' hSw; obtain ⟨hS0, hS1, hS2⟩ := hSw; go_simp; try with_reducible rfl)
  simp only [Act.put, List.setIfInBounds_toArray, List.set_cons_zero, List.set_cons_succ, List.getElem_toArray, List.getElem_cons_succ, List.getElem_cons_zero]
  refine wpAnyH_take (i := 5) (v := ?_) rfl (by kernel_rfl) (by kernel_rfl) (by kernel_rfl) (fun _ _ _ h => h) (Or.inl ⟨by kernel_rfl, ?_⟩) hHeld ?_
  rotate_left
  · (intro w' hSw; obtain ⟨hS0, hS1, hS2⟩ := hSw; go_simp; try with_reducible rfl)
  simp only [Act.put, List.setIfInBounds_toArray, List.set_cons_zero, List.set_cons_succ, List.getElem_toArray, List.getElem_cons_succ, List.getElem_cons_zero]
  refine wpAnyH_take (i := 7) (v := ?_) rfl (by kernel_rfl) (by kernel_rfl) (by kernel_rfl) (fun _ _ _ h => h) (Or.inl ⟨by kernel_rfl, ?_⟩) hHeld ?_
  rotate_left
  · (intro w' hSw; obtain ⟨hS0, hS1, hS2⟩ := hSw; go_simp; try with_reducible rfl)
  simp only [Act.put, List.setIfInBounds_toArray, List.set_cons_zero, List.set_cons_succ, List.getElem_toArray, List.getElem_cons_succ, List.getElem_cons_zero]
  refine wpAnyH_take (i := 8) (v := ?_) rfl (by kernel_rfl) (by kernel_rfl) (by kernel_rfl) (fun _ _ _ h => h) (Or.inl ⟨by kernel_rfl, ?_⟩) hHeld ?_
  rotate_left
  · (intro w' hSw; obtain ⟨hS0, hS1, hS2⟩ := hSw; go_simp; try with_reducible rfl)
  simp only [Act.put, List.setIfInBounds_toArray, List.set_cons_zero, List.set_cons_succ, List.getElem_toArray, List.getElem_cons_succ, List.getElem_cons_zero]
  refine wpAnyH_take (i := 9) (v := ?_) rfl (by kernel_rfl) (by kernel_rfl) (by kernel_rfl) (fun _ _ _ h => h) (Or.inl ⟨by kernel_rfl, ?_⟩) hHeld ?_
  rotate_left
  · (intro w' hSw; obtain ⟨hS0, hS1, hS2⟩ := hSw; go_simp; try with_reducible rfl)
  simp only [Act.put, List.setIfInBounds_toArray, List.set_cons_zero, List.set_cons_succ, List.getElem_toArray, List.getElem_cons_succ, List.getElem_cons_zero]
  refine wpAnyH_take (i := 10) (v := ?_) rfl (by kernel_rfl) (by kernel_rfl) (by kernel_rfl) (fun _ _ _ h => h) (Or.inl ⟨by kernel_rfl, ?_⟩) hHeld ?_
  rotate_left
  · (intro w' hSw; obtain ⟨hS0, hS1, hS2⟩ := hSw; go_simp; try with_reducible rfl)
  simp only [Act.put, List.setIfInBounds_toArray, List.set_cons_zero, List.set_cons_succ, List.getElem_toArray, List.getElem_cons_succ, List.getElem_cons_zero]
  refine wpAnyH_take (i := 12) (v := ?_) rfl (by kernel_rfl) (by kernel_rfl) (by kernel_rfl) (fun _ _ _ h => h) (Or.inl ⟨by kernel_rfl, ?_⟩) hHeld ?_
  rotate_left
  · (intro w' hSw; obtain ⟨hS0, hS1, hS2⟩ := hSw; go_simp; try with_reducible rfl)
  simp only [Act.put, List.setIfInBounds_toArray, List.set_cons_zero, List.set_cons_succ, List.getElem_toArray, List.getElem_cons_succ, List.getElem_cons_zero]
  refine wpAnyH_take (i := 1) (v := .agg (kL).toArray) rfl (by kernel_rfl) (by kernel_rfl) (by kernel_rfl) (fun _ _ _ h => h) (yieldsIf_load_mid (by kernel_rfl) 24 _ rfl (C) (2) rfl kL _ (fun _ h => h.k) Tryd.underlying24 rfl (by rw [HkL.out]; exact info_k)) hHeld ?_
  simp only [Act.put, List.setIfInBounds_toArray, List.set_cons_zero, List.set_cons_succ, List.getElem_toArray, List.getElem_cons_succ, List.getElem_cons_zero]
  obtain ⟨X0, hX0⟩ : ∃ Z, X.drew = Z := ⟨_, rfl⟩
  have HR0 := Lib.hid (show X0.heap[R]? = some (.cells noCh.toArray 26 (0, 0)) by rw [← hX0]; exact HR.out)
  have HV0 := Lib.hid (show VHash X0 by rw [← hX0]; exact ⟨HV.out.e, HV.out.r⟩)
  have HCl0 := Lib.hid (show C < X0.heap.size by rw [← hX0]; exact HCl.out)
  rw [hX0] at hHeld hch HB0 ⊢
  clear hX0 HB HC HR HV hch0 HCl
  refine wpAnyH_ready (rs := [2]) (by kernel_rfl) (by simp) (AllReadyH.cons rfl (fun K hK => ?_) AllReadyH.nil)
  go_simp
  have hb := (Below.refl X0.heap.size X0).alloc (Nat.le_refl _) (.cells #[.string ⟨#[115, 101, 110, 100]⟩] 9)
  have HC1 := Lib.hid (HK.out X0.heap.size _ (heap_alloc_new X0 (.cells #[.string ⟨#[115, 101, 110, 100]⟩] 9)) (HV0.out.below hb))
  have HB1 := Lib.hid (HB0.out.trans (hb.mono HB0.out.size))
  have hch1 := hch.keep hb HCl0.out
  have HD1 := Lib.hid hb
  clear hb
  refine hK.out _ _ hch1 (fun hHeld => ?_)
  clear hK K
  (try simp only [Act.put, List.setIfInBounds_toArray, List.set_cons_zero, List.set_cons_succ, List.getElem_toArray, List.getElem_cons_succ, List.getElem_cons_zero])
  refine wpAnyH_ready (rs := [3]) (by kernel_rfl) (by simp) (AllReadyH.cons rfl (fun K hK => ?_) AllReadyH.nil)
  go_simp
  with_reducible refine HC1.out.mono ?_
  rintro _ X2 ⟨rfl, hb⟩
  have HD2 := Lib.hid (HD1.out.trans (hb.mono HD1.out.size))
  have HC2 := Lib.hid (HN.out X2)
  clear hb HC1 HD1 HB1
  refine hK.out _ _ (by exact hch.keep HD2.out HCl0.out) (fun hHeld => ?_)
  clear hK K
  (try simp only [Act.put, List.setIfInBounds_toArray, List.set_cons_zero, List.set_cons_succ, List.getElem_toArray, List.getElem_cons_succ, List.getElem_cons_zero])
  refine wpAnyH_ready (rs := [6]) (by kernel_rfl) (by simp) (AllReadyH.cons rfl (fun K hK => ?_) AllReadyH.nil)
  go_simp
  with_reducible refine HC2.out.mono ?_
  rintro _ X3 ⟨rfl, hb⟩
  have HD3 := Lib.hid (HD2.out.trans (hb.mono HD2.out.size))
  have HC3 := Lib.hid (HH.out X3)
  clear hb HC2 HD2
  refine hK.out _ _ (by exact hch.keep HD3.out HCl0.out) (fun hHeld => ?_)
  clear hK K
  (try simp only [Act.put, List.setIfInBounds_toArray, List.set_cons_zero, List.set_cons_succ, List.getElem_toArray, List.getElem_cons_succ, List.getElem_cons_zero])
  refine wpAnyH_ready (rs := [11]) (by kernel_rfl) (by simp) (AllReadyH.cons rfl (fun K hK => ?_) AllReadyH.nil)
  go_simp
  with_reducible refine HC3.out.mono ?_
  rintro _ X4 ⟨rfl, hb⟩
  have HD4 := Lib.hid (HD3.out.trans (hb.mono HD3.out.size))
  have HC4 := Lib.hid (HS.out X4 (HV0.out.below HD4.out))
  clear hb HC3 HD3
  refine hK.out _ _ (by exact hch.keep HD4.out HCl0.out) (fun hHeld => ?_)
  clear hK K
  (try simp only [Act.put, List.setIfInBounds_toArray, List.set_cons_zero, List.set_cons_succ, List.getElem_toArray, List.getElem_cons_succ, List.getElem_cons_zero])
  refine wpAnyH_ready (rs := [13]) (by kernel_rfl) (by simp) (AllReadyH.cons rfl (fun K hK => ?_) AllReadyH.nil)
  go_simp
  with_reducible refine HC4.out.mono ?_
  rintro _ X5 ⟨rfl, hb⟩
  have HD5 := Lib.hid (HD4.out.trans (hb.mono HD4.out.size))
  clear hb HC4 HD4
  have hch5 := hch.keep HD5.out HCl0.out
  refine hK.out _ _ hch5 (fun hHeld => ?_)
  clear hK K
  (try simp only [Act.put, List.setIfInBounds_toArray, List.set_cons_zero, List.set_cons_succ, List.getElem_toArray, List.getElem_cons_succ, List.getElem_cons_zero])
  refine wpAnyH_take (i := 14) (v := ?_) rfl (by kernel_rfl) (by kernel_rfl) (by kernel_rfl) (fun _ _ _ h => h) (Or.inl ⟨by kernel_rfl, ?_⟩) hHeld ?_
  rotate_left
  · (intro w' hSw; (try dsimp only at hSw); go_simp; try with_reducible rfl)
  simp only [Act.put, List.setIfInBounds_toArray, List.set_cons_zero, List.set_cons_succ, List.getElem_toArray, List.getElem_cons_succ, List.getElem_cons_zero]
  refine wpAnyH_done (by kernel_rfl) ?_ _
  clear hHeld hch1
  go_wp2_with fail
  have HB5 := Lib.hid (HB0.out.trans (HD5.out.mono HB0.out.size))
  have HR5 := Lib.hid ((HD5.out.block _ (blk_lt HR0.out)).trans HR0.out)
  have HV5 := Lib.hid (HV0.out.below HD5.out)
  have HCl5 := Lib.hid (Nat.lt_of_lt_of_le HCl0.out HD5.out.size)
  clear HD5 HR0 HV0 HCl0 HB0 hch
  have hch := hch5.drew
  clear hch5
  refine wp_region_held_drew (S := (fun w' => ChS w' C m n kL)) (by kernel_rfl) (by exact hch) (fun hHeld => ?_)
  refine wpAnyH_take (i := 0) (v := ?_) rfl (by kernel_rfl) (by kernel_rfl) (by kernel_rfl) (fun _ _ _ h => h) (Or.inl ⟨by kernel_rfl, ?_⟩) hHeld ?_
  rotate_left
  · (intro w' hSw; obtain ⟨hS0, hS1, hS2⟩ := hSw; go_simp; try with_reducible rfl)
  simp only [Act.put, List.setIfInBounds_toArray, List.set_cons_zero, List.set_cons_succ, List.getElem_toArray, List.getElem_cons_succ, List.getElem_cons_zero]
  refine wpAnyH_take (i := 1) (v := ?_) rfl (by kernel_rfl) (by kernel_rfl) (by kernel_rfl) (fun _ _ _ h => h) (Or.inl ⟨by kernel_rfl, ?_⟩) hHeld ?_
  rotate_left
  · (intro w' hSw; obtain ⟨hS0, hS1, hS2⟩ := hSw; go_simp; try with_reducible rfl)
  simp only [Act.put, List.setIfInBounds_toArray, List.set_cons_zero, List.set_cons_succ, List.getElem_toArray, List.getElem_cons_succ, List.getElem_cons_zero]
  refine wpAnyH_take (i := 2) (v := ?_) rfl (by kernel_rfl) (by kernel_rfl) (by kernel_rfl) (fun _ _ _ h => h) (Or.inl ⟨by kernel_rfl, ?_⟩) hHeld ?_
  rotate_left
  · (intro w' hSw; obtain ⟨hS0, hS1, hS2⟩ := hSw; go_simp; try with_reducible rfl)
  simp only [Act.put, List.setIfInBounds_toArray, List.set_cons_zero, List.set_cons_succ, List.getElem_toArray, List.getElem_cons_succ, List.getElem_cons_zero]
  refine wpAnyH_take (i := 3) (v := ?_) rfl (by kernel_rfl) (by kernel_rfl) (by kernel_rfl) (fun _ _ _ h => h) (Or.inl ⟨by kernel_rfl, ?_⟩) hHeld ?_
  rotate_left
  · (intro w' hSw; obtain ⟨hS0, hS1, hS2⟩ := hSw; go_simp; try with_reducible rfl)
  simp only [Act.put, List.setIfInBounds_toArray, List.set_cons_zero, List.set_cons_succ, List.getElem_toArray, List.getElem_cons_succ, List.getElem_cons_zero]
  refine wpAnyH_take (i := 5) (v := ?_) rfl (by kernel_rfl) (by kernel_rfl) (by kernel_rfl) (fun _ _ _ h => h) (Or.inl ⟨by kernel_rfl, ?_⟩) hHeld ?_
  rotate_left
  · (intro w' hSw; obtain ⟨hS0, hS1, hS2⟩ := hSw; go_simp; try with_reducible rfl)
  simp only [Act.put, List.setIfInBounds_toArray, List.set_cons_zero, List.set_cons_succ, List.getElem_toArray, List.getElem_cons_succ, List.getElem_cons_zero]
  obtain ⟨Y0, hY0⟩ : ∃ Z, X5.drew = Z := ⟨_, rfl⟩
  have HB6 := Lib.hid (show Below w.heap.size w Y0 by rw [← hY0]; exact HB5.out.drew)
  have HR6 := Lib.hid (show Y0.heap[R]? = some (.cells noCh.toArray 26 (0, 0)) by rw [← hY0]; exact HR5.out)
  have HV6 := Lib.hid (show VHash Y0 by rw [← hY0]; exact ⟨HV5.out.e, HV5.out.r⟩)
  have HCl6 := Lib.hid (show C < Y0.heap.size by rw [← hY0]; exact HCl5.out)
  rw [hY0] at hHeld hch ⊢
  clear hY0 HB5 HR5 HV5 HCl5
  have HC5 := Lib.hid (HP.out Y0)
  refine wpAnyH_ready (rs := [4]) (by kernel_rfl) (by simp) (AllReadyH.cons rfl (fun K hK => ?_) AllReadyH.nil)
  go_simp
  with_reducible refine HC5.out.mono ?_
  rintro _ Y1 ⟨rfl, hb⟩
  have HD1 := Lib.hid hb
  clear hb HC5
  refine hK.out _ _ (by exact hch.keep HD1.out HCl6.out) (fun hHeld => ?_)
  clear hK K
  (try simp only [Act.put, List.setIfInBounds_toArray, List.set_cons_zero, List.set_cons_succ, List.getElem_toArray, List.getElem_cons_succ, List.getElem_cons_zero])
  refine wpAnyH_ready (rs := [6]) (by kernel_rfl) (by simp) (AllReadyH.cons rfl (fun K hK => ?_) AllReadyH.nil)
  go_simp
  have hb := (Below.refl Y1.heap.size Y1).alloc (Nat.le_refl _) (.cells #[.string ⟨m.toArray⟩, .string ⟨q.toArray⟩, .string ⟨bx.toArray⟩] 9)
  have HD2 := Lib.hid (HD1.out.trans (hb.mono HD1.out.size))
  have HC6 := Lib.hid (HRw.out Y1.heap.size _ (heap_alloc_new Y1 (.cells #[.string ⟨m.toArray⟩, .string ⟨q.toArray⟩, .string ⟨bx.toArray⟩] 9)))
  clear hb HD1
  refine hK.out _ _ (by exact hch.keep HD2.out HCl6.out) (fun hHeld => ?_)
  clear hK K
  (try simp only [Act.put, List.setIfInBounds_toArray, List.set_cons_zero, List.set_cons_succ, List.getElem_toArray, List.getElem_cons_succ, List.getElem_cons_zero])
  refine wpAnyH_ready (rs := [7]) (by kernel_rfl) (by simp) (AllReadyH.cons rfl (fun K hK => ?_) AllReadyH.nil)
  go_simp
  with_reducible refine HC6.out.mono ?_
  rintro _ Y2 ⟨rfl, hb⟩
  have HD3 := Lib.hid (HD2.out.trans (hb.mono HD2.out.size))
  clear hb HC6 HD2
  have hch3 := hch.keep HD3.out HCl6.out
  refine hK.out _ _ hch3 (fun hHeld => ?_)
  clear hK K
  (try simp only [Act.put, List.setIfInBounds_toArray, List.set_cons_zero, List.set_cons_succ, List.getElem_toArray, List.getElem_cons_succ, List.getElem_cons_zero])
  refine wpAnyH_take (i := 8) (v := ?_) rfl (by kernel_rfl) (by kernel_rfl) (by kernel_rfl) (fun _ _ _ h => h) (Or.inl ⟨by kernel_rfl, ?_⟩) hHeld ?_
  rotate_left
  · (intro w' hSw; (try dsimp only at hSw); go_simp; try with_reducible rfl)
  simp only [Act.put, List.setIfInBounds_toArray, List.set_cons_zero, List.set_cons_succ, List.getElem_toArray, List.getElem_cons_succ, List.getElem_cons_zero]
  refine wpAnyH_done (by kernel_rfl) ?_ _
  clear hHeld
  have HB7 := Lib.hid (HB6.out.trans (HD3.out.mono HB6.out.size))
  have HR7 := Lib.hid ((HD3.out.block _ (blk_lt HR6.out)).trans HR6.out)
  have HV7 := Lib.hid (HV6.out.below HD3.out)
  have HCl7 := Lib.hid (Nat.lt_of_lt_of_le HCl6.out HD3.out.size)
  clear HD3 HR6 HV6 HCl6 HB6 hch
  have hch := hch3.drew
  clear hch3
  go_wp2_with fail
  refine wp_region_held_drew (S := (fun w' => ChS w' C m n kL)) (by kernel_rfl) (by exact hch) (fun hHeld => ?_)
  refine wpAnyH_take (i := 0) (v := ?_) rfl (by kernel_rfl) (by kernel_rfl) (by kernel_rfl) (fun _ _ _ h => h) (Or.inl ⟨by kernel_rfl, ?_⟩) hHeld ?_
  rotate_left
  · (intro w' hSw; obtain ⟨hS0, hS1, hS2⟩ := hSw; go_simp; try with_reducible rfl)
  simp only [Act.put, List.setIfInBounds_toArray, List.set_cons_zero, List.set_cons_succ, List.getElem_toArray, List.getElem_cons_succ, List.getElem_cons_zero]
  refine wpAnyH_take (i := 1) (v := ?_) rfl (by kernel_rfl) (by kernel_rfl) (by kernel_rfl) (fun _ _ _ h => h) (Or.inl ⟨by kernel_rfl, ?_⟩) hHeld ?_
  rotate_left
  · (intro w' hSw; obtain ⟨hS0, hS1, hS2⟩ := hSw; go_simp; try with_reducible rfl)
  simp only [Act.put, List.setIfInBounds_toArray, List.set_cons_zero, List.set_cons_succ, List.getElem_toArray, List.getElem_cons_succ, List.getElem_cons_zero]
  refine wpAnyH_take (i := 2) (v := ?_) rfl (by kernel_rfl) (by kernel_rfl) (by kernel_rfl) (fun _ _ _ h => h) (Or.inl ⟨by kernel_rfl, ?_⟩) hHeld ?_
  rotate_left
  · (intro w' hSw; obtain ⟨hS0, hS1, hS2⟩ := hSw; go_simp; try with_reducible rfl)
  simp only [Act.put, List.setIfInBounds_toArray, List.set_cons_zero, List.set_cons_succ, List.getElem_toArray, List.getElem_cons_succ, List.getElem_cons_zero]
  refine wpAnyH_take (i := 3) (v := ?_) rfl (by kernel_rfl) (by kernel_rfl) (by kernel_rfl) (fun _ _ _ h => h) (Or.inl ⟨by kernel_rfl, ?_⟩) hHeld ?_
  rotate_left
  · (intro w' hSw; obtain ⟨hS0, hS1, hS2⟩ := hSw; go_simp; try with_reducible rfl)
  simp only [Act.put, List.setIfInBounds_toArray, List.set_cons_zero, List.set_cons_succ, List.getElem_toArray, List.getElem_cons_succ, List.getElem_cons_zero]
  refine wpAnyH_take (i := 4) (v := ?_) rfl (by kernel_rfl) (by kernel_rfl) (by kernel_rfl) (fun _ _ _ h => h) (Or.inl ⟨by kernel_rfl, ?_⟩) hHeld ?_
  rotate_left
  · (intro w' hSw; obtain ⟨hS0, hS1, hS2⟩ := hSw; go_simp; try with_reducible rfl)
  simp only [Act.put, List.setIfInBounds_toArray, List.set_cons_zero, List.set_cons_succ, List.getElem_toArray, List.getElem_cons_succ, List.getElem_cons_zero]
  refine wpAnyH_take (i := 5) (v := ?_) rfl (by kernel_rfl) (by kernel_rfl) (by kernel_rfl) (fun _ _ _ h => h) (Or.inl ⟨by kernel_rfl, ?_⟩) hHeld ?_
  rotate_left
  · (intro w' hSw; obtain ⟨hS0, hS1, hS2⟩ := hSw; go_simp; try with_reducible rfl)
  simp only [Act.put, List.setIfInBounds_toArray, List.set_cons_zero, List.set_cons_succ, List.getElem_toArray, List.getElem_cons_succ, List.getElem_cons_zero]
  refine wpAnyH_take (i := 9) (v := ?_) rfl (by kernel_rfl) (by kernel_rfl) (by kernel_rfl) (fun _ _ _ h => h) (Or.inl ⟨by kernel_rfl, ?_⟩) hHeld ?_
  rotate_left
  · (intro w' hSw; obtain ⟨hS0, hS1, hS2⟩ := hSw; go_simp; try with_reducible rfl)
  simp only [Act.put, List.setIfInBounds_toArray, List.set_cons_zero, List.set_cons_succ, List.getElem_toArray, List.getElem_cons_succ, List.getElem_cons_zero]
  refine wpAnyH_take (i := 6) (v := .agg (kL).toArray) rfl (by kernel_rfl) (by kernel_rfl) (by kernel_rfl) (fun _ _ _ h => h) (yieldsIf_load_mid (by kernel_rfl) 24 _ rfl (C) (2) rfl kL _ (fun _ h => h.k) Tryd.underlying24 rfl (by rw [HkL.out]; exact info_k)) hHeld ?_
  simp only [Act.put, List.setIfInBounds_toArray, List.set_cons_zero, List.set_cons_succ, List.getElem_toArray, List.getElem_cons_succ, List.getElem_cons_zero]
  obtain ⟨Z0, hZ0⟩ : ∃ Z, Y2.drew = Z := ⟨_, rfl⟩
  have HB8 := Lib.hid (show Below w.heap.size w Z0 by rw [← hZ0]; exact HB7.out.drew)
  have HR8 := Lib.hid (show Z0.heap[R]? = some (.cells noCh.toArray 26 (0, 0)) by rw [← hZ0]; exact HR7.out)
  have HV8 := Lib.hid (show VHash Z0 by rw [← hZ0]; exact ⟨HV7.out.e, HV7.out.r⟩)
  have HCl8 := Lib.hid (show C < Z0.heap.size by rw [← hZ0]; exact HCl7.out)
  rw [hZ0] at hHeld hch ⊢
  clear hZ0 HB7 HR7 HV7 HCl7
  have HC7 := Lib.hid (HNx.out Z0 HV8.out)
  refine wpAnyH_ready (rs := [7]) (by kernel_rfl) (by simp) (AllReadyH.cons rfl (fun K hK => ?_) AllReadyH.nil)
  go_simp
  with_reducible refine HC7.out.mono ?_
  rintro _ Z1 ⟨rfl, hb⟩
  have HB9 := Lib.hid (HB8.out.trans (hb.mono HB8.out.size))
  have HR9 := Lib.hid ((hb.block _ (blk_lt HR8.out)).trans HR8.out)
  have hch9 := hch.keep hb HCl8.out
  clear hb HC7 HB8 HR8 HV8 HCl8
  refine hK.out _ _ hch9 (fun hHeld => ?_)
  clear hK K
  (try simp only [Act.put, List.setIfInBounds_toArray, List.set_cons_zero, List.set_cons_succ, List.getElem_toArray, List.getElem_cons_succ, List.getElem_cons_zero])
  refine wpAnyH_take (i := 8) (v := .agg L.toArray) rfl (by kernel_rfl) (by kernel_rfl) (by kernel_rfl) (fun _ _ _ h => h) (Or.inl ⟨by kernel_rfl, ?_⟩) hHeld ?_
  · intro w' _
    exact exec_build3 HBc.out rfl rfl rfl rfl w'
  simp only [Act.put, List.setIfInBounds_toArray, List.set_cons_zero, List.set_cons_succ, List.getElem_toArray, List.getElem_cons_succ, List.getElem_cons_zero]
  have HTH := Lib.hid (thereL (n := L.toArray.size) HR9.out (by rw [List.size_toArray, HLl.out]; exact Nat.le_refl _))
  have HFn := Lib.hid (heap_setCells_all (vs := L) HR9.out (by rw [HLl.out]; rfl))
  have HBn := Lib.hid (show Below w.heap.size w (Z1.setCells R 0 L) from HB9.out.trans (Lib.below_setCells_w k0 L 0 Z1))
  have hchn : ChS (Z1.setCells R 0 L) C m n kL := ⟨(grown_cells R L 0 Z1).cell hch9.a (by simp; omega), (grown_cells R L 0 Z1).cell hch9.b (by simp; omega), hch9.k.grown (grown_cells R L 0 Z1) (by simp; omega)⟩
  refine wpAnyH_ready (rs := [10]) (by kernel_rfl) (by simp) (AllReadyH.cons rfl (fun K hK => ?_) AllReadyH.nil)
  refine wp_store_mid 26 _ _ rfl R 0 L.toArray rfl rfl HTH.out (by rw [List.size_toArray, HLl.out]; exact info_ch) HL1.out ?_
  refine hK.out _ _ hchn (fun hHeld => ?_)
  clear hK K
  (try simp only [Act.put, List.setIfInBounds_toArray, List.set_cons_zero, List.set_cons_succ, List.getElem_toArray, List.getElem_cons_succ, List.getElem_cons_zero])
  refine wpAnyH_take (i := 11) (v := ?_) rfl (by kernel_rfl) (by kernel_rfl) (by kernel_rfl) (fun _ _ _ h => h) (Or.inl ⟨by kernel_rfl, ?_⟩) hHeld ?_
  rotate_left
  · (intro w' hSw; (try dsimp only at hSw); go_simp; try with_reducible rfl)
  simp only [Act.put, List.setIfInBounds_toArray, List.set_cons_zero, List.set_cons_succ, List.getElem_toArray, List.getElem_cons_succ, List.getElem_cons_zero]
  refine wpAnyH_take (i := 12) (v := ?_) rfl (by kernel_rfl) (by kernel_rfl) (by kernel_rfl) (fun _ _ _ h => h) (Or.inl ⟨by kernel_rfl, ?_⟩) hHeld ?_
  rotate_left
  · (intro w' hSw; (try dsimp only at hSw); go_simp; try with_reducible rfl)
  simp only [Act.put, List.setIfInBounds_toArray, List.set_cons_zero, List.set_cons_succ, List.getElem_toArray, List.getElem_cons_succ, List.getElem_cons_zero]
  refine wpAnyH_done (by kernel_rfl) ?_ _
  go_wp2_with fail
  refine bodyPost_ret (v := .tuple #[.agg L.toArray, .string ⟨fr.toArray⟩, .int .i64 0]) (results_cst rfl rfl (rangeL HFn.out) Tryd.underlying26 rfl (by rw [HLl.out]; exact info_ch) rfl rfl) rfl ?_
  exact ⟨by rw [HO.out], HBn.out⟩
end Go.Proofs.YtadoplgmeoghmaaDoor
