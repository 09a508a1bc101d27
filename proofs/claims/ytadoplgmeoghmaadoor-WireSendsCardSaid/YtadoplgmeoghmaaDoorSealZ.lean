/- The walks of seal's keys, tag, Seal, Nonce and Open. The walks of seal's tag. The walks of seal's Nonce and Seal. The walk of seal's Open. -/
import Derived.Test.YtadoplgmeoghmaaDoorChaX
import Derived.Test.YtadoplgmeoghmaaDoorHashK
import Derived.Test.YtadoplgmeoghmaaDoorNumW4
namespace Go.Proofs.YtadoplgmeoghmaaDoor
open Go.RowKit
set_option linter.unusedVariables false
set_option linter.unusedSimpArgs false
end Go.Proofs.YtadoplgmeoghmaaDoor
namespace Go
open Go.RowKit
theorem World.rangeAt.keep {w w' : World} {b o n : Nat} {cs : List Value} (h : w.rangeAt b o cs) (hb : Below n w w') (hn : b < n) : w'.rangeAt b o cs := fun j v hv => by
  rw [hb.cell (p := ⟨b, o + j, none⟩) hn]; exact h j v hv
theorem World.rangeAt.grown {w w' : World} {b o : Nat} {cs : List Value} {r : Option Nat} (h : w.rangeAt b o cs) (hg : w.grownBy w' r) (hr : some b ≠ r) : w'.rangeAt b o cs := fun j v hv => hg.cell (h j v hv) hr
end Go
namespace Go.Proofs.YtadoplgmeoghmaaDoor
open Go.RowKit
set_option linter.unusedVariables false
set_option linter.unusedSimpArgs false
theorem keyed_1 (k : List UInt8) (hk : k.length = 32) (A : Nat) (p : List UInt8) (hp : p.length < 4611686018427387904) (w : World) (hA : w.heap[A]? = some (.cells #[.string ⟨p.toArray⟩] 9 (0, 0))) (hv : VHash w) :
    Calls Tryd.prog 18 #[.agg (u8s k).toArray, .slice (some ⟨A, 0, none⟩) 1 1] w
      (fun e w' => e = .returned (.agg (u8s (Pl.keyedB k [p])).toArray) ∧ Below w.heap.size w w') := by
  refine keyed_any k hk (some ⟨A, 0, none⟩) [p] 1 (by simpa using hp) (show 1 < 4611686018427387904 by decide) w ⟨rfl, fun _ => ?_⟩ hv
  refine ⟨A, 0, rfl, blk_lt hA, fun j hj => ?_⟩
  rw [Nat.zero_add, cell_row w A j _ _ hA]; simp [strs]
theorem rowS {w : World} {A : Nat} {l : List (List UInt8)} (hA : w.heap[A]? = some (.cells (strs l).toArray 9 (0, 0))) : Rd w 1 (some ⟨A, 0, none⟩) l.length (strs l) := by
  refine ⟨by rw [strs_len, Nat.mul_one], fun _ => ⟨A, 0, rfl, blk_lt hA, fun j hj => ?_⟩⟩
  rw [Nat.zero_add, cell_row w A j _ _ hA]; simp
theorem results_two {fn : Func} {tmps : Array Value} {w : World} {a b B D : Nat} {T U : TypeId} {cs ds : List Value} {d e : TypeDesc} (hf : fn.results = #[.cell a T, .cell b U]) (ha : tmps[a]?.getD undef = .pointer (some ⟨B, 0, none⟩)) (hb : tmps[b]?.getD undef = .pointer (some ⟨D, 0, none⟩)) (hc : w.rangeAt B 0 cs) (hd' : w.rangeAt D 0 ds) (hu : Tryd.prog.underlying T = some d) (hd : d.isRow = true) (hi : (Tryd.prog.info? T).map (·.size) = some cs.length) (hu2 : Tryd.prog.underlying U = some e) (hd2 : e.isRow = true) (hi2 : (Tryd.prog.info? U).map (·.size) = some ds.length) :
    (results fn tmps).run Tryd.prog w = .ok (.tuple #[.agg cs.toArray, .agg ds.toArray]) w := by
  have h := run_loadVar_mid (P := Tryd.prog) w B 0 T cs d hc hu hd hi
  have h2 := run_loadVar_mid (P := Tryd.prog) w D 0 U ds e hd' hu2 hd2 hi2
  simp [results, hf, ha, hb, asAddr, h, h2, Sem.run_bind]
set_option maxRecDepth 1000000 in
set_option maxHeartbeats 8000000 in
theorem keys_any (k : List UInt8) (hk : k.length = 32) (w : World) (hv : VHash w) :
    Calls Tryd.prog 42 #[.agg (u8s k).toArray] w (fun e w' => e = .returned (.tuple #[.agg (u8s (Pl.turnK k)).toArray, .agg (u8s (Pl.markK k)).toArray]) ∧ Below w.heap.size w w') := by
  go_enter Tryd.func42, Tryd.ntmps42
  go_upto_region 1 with (fail)
  generalize hX : ((w.alloc _).alloc _).alloc _ = X
  have HB := Lib.hid (show Below w.heap.size w X by rw [← hX]; exact (((Below.refl _ _).alloc (Nat.le_refl _) _).alloc (by simp) _).alloc (by simp; omega) _)
  have HK := Lib.hid (show X.heap[w.heap.size]? = some (.cells (u8s k).toArray 24 (0, 0)) by rw [← hX]; exact (Below.heap_alloc _ _ _ (by simp; omega)).trans ((Below.heap_alloc _ _ _ (by simp)).trans (heap_alloc_new w _)))
  have HR1 := Lib.hid (show X.heap[w.heap.size + 1]? = some (.cells (u8s (List.replicate 32 0)).toArray 24 (0, 0)) by rw [← hX]; exact (Below.heap_alloc _ _ _ (by simp)).trans (heap_alloc_2 w _ _))
  have HR2 := Lib.hid (show X.heap[w.heap.size + 1 + 1]? = some (.cells (u8s (List.replicate 32 0)).toArray 24 (0, 0)) by rw [← hX]; have := heap_alloc_2 (w.alloc (.cells (u8s k).toArray 24)) (.cells (u8s (List.replicate 32 0)).toArray 24) (.cells (u8s (List.replicate 32 0)).toArray 24); rw [show (w.alloc (.cells (u8s k).toArray 24)).heap.size = w.heap.size + 1 by simp] at this; exact this)
  have HV := Lib.hid (hv.below HB.out)
  clear hX
  obtain ⟨K1, hKe⟩ : ∃ K, w.heap.size = K := ⟨_, rfl⟩
  obtain ⟨R1, hR1⟩ : ∃ N, K1 + 1 = N := ⟨_, rfl⟩
  obtain ⟨R2, hR2⟩ : ∃ R, R1 + 1 = R := ⟨_, rfl⟩
  rw [hKe] at HK HR1 HR2 ⊢
  rw [hR1] at HR1 HR2 ⊢
  rw [hR2] at HR2 ⊢
  have k0 : w.heap.size ≤ K1 := Nat.le_of_eq hKe
  have k1 : K1 < R1 := by omega
  have k2 : R1 < R2 := by omega
  have HKe := Lib.hid hKe
  clear hKe hR1 hR2
  obtain ⟨kL, hkL⟩ : ∃ L, u8s k = L := ⟨_, rfl⟩
  obtain ⟨tA, htA⟩ : ∃ L, u8s (Pl.turnK k) = L := ⟨_, rfl⟩
  obtain ⟨tB, htB⟩ : ∃ L, u8s (Pl.markK k) = L := ⟨_, rfl⟩
  have HtA := Lib.hid (show tA.length = 32 by rw [← htA, u8s_len]; exact Pl.keyedB_len _ _)
  have HtB := Lib.hid (show tB.length = 32 by rw [← htB, u8s_len]; exact Pl.keyedB_len _ _)
  have HtA1 := Lib.hid (show tA.toArray.all (·.oneCell') = true by rw [← htA]; exact all_oneCell_toArray (u8s_one _))
  have HtB1 := Lib.hid (show tB.toArray.all (·.oneCell') = true by rw [← htB]; exact all_oneCell_toArray (u8s_one _))
  have HkL := Lib.hid (show kL.length = 32 by rw [← hkL, u8s_len, hk])
  have HC1 := Lib.hid (fun A w hA hv => keyed_1 k hk A Pl.tCipher (by decide) w hA hv)
  have HC2 := Lib.hid (fun A w hA hv => keyed_1 k hk A Pl.tTag (by decide) w hA hv)
  rw [show u8s (Pl.keyedB k [Pl.tCipher]) = tA from htA] at HC1
  rw [show u8s (Pl.keyedB k [Pl.tTag]) = tB from htB] at HC2
  rw [hkL] at HK HC1 HC2 ⊢
  have HtAe := Lib.hid htA
  have HtBe := Lib.hid htB
  clear htA htB hkL
  refine wp_region_held_drew (S := (fun w' => w'.rangeAt K1 0 kL)) (by kernel_rfl) (by exact rangeL HK.out) (fun hHeld => ?_)
  refine wpAnyH_take (i := 0) (v := .agg (kL).toArray) rfl (by kernel_rfl) (by kernel_rfl) (by kernel_rfl) (fun _ _ _ h => h) (yieldsIf_load_mid (by kernel_rfl) 24 _ rfl K1 0 rfl kL _ (fun _ h => h) Tryd.underlying24 rfl (by rw [HkL.out]; exact info_k)) hHeld ?_
  simp only [Act.put, List.setIfInBounds_toArray, List.set_cons_zero, List.set_cons_succ, List.getElem_toArray, List.getElem_cons_succ, List.getElem_cons_zero]
  refine wpAnyH_take (i := 3) (v := .agg (kL).toArray) rfl (by kernel_rfl) (by kernel_rfl) (by kernel_rfl) (fun _ _ _ h => h) (yieldsIf_load_mid (by kernel_rfl) 24 _ rfl K1 0 rfl kL _ (fun _ h => h) Tryd.underlying24 rfl (by rw [HkL.out]; exact info_k)) hHeld ?_
  simp only [Act.put, List.setIfInBounds_toArray, List.set_cons_zero, List.set_cons_succ, List.getElem_toArray, List.getElem_cons_succ, List.getElem_cons_zero]
  obtain ⟨X0, hX0⟩ : ∃ Z, X.drew = Z := ⟨_, rfl⟩
  have HB0 := Lib.hid (show Below w.heap.size w X0 by rw [← hX0]; exact HB.out.drew)
  have HK0 := Lib.hid (show X0.rangeAt K1 0 kL by rw [← hX0]; exact rangeL HK.out)
  have HR10 := Lib.hid (show X0.heap[R1]? = some (.cells (u8s (List.replicate 32 0)).toArray 24 (0, 0)) by rw [← hX0]; exact HR1.out)
  have HR20 := Lib.hid (show X0.heap[R2]? = some (.cells (u8s (List.replicate 32 0)).toArray 24 (0, 0)) by rw [← hX0]; exact HR2.out)
  have HV0 := Lib.hid (show VHash X0 by rw [← hX0]; exact ⟨HV.out.e, HV.out.r⟩)
  have HKl := Lib.hid (show K1 < X0.heap.size by rw [← hX0]; exact blk_lt HK.out)
  rw [hX0] at hHeld ⊢
  have HD0 := Lib.hid (Below.refl X0.heap.size X0)
  clear hX0 HB HK HR1 HR2 HV
  refine wpAnyH_ready (rs := [1, 4]) (by kernel_rfl) (by simp) (AllReadyH.cons rfl (fun K hK => ?_) (AllReadyH.cons rfl (fun K hK => ?_) AllReadyH.nil))
  · go_simp
    have HA1 := Lib.hid (show (X0.alloc (.cells #[.string ⟨#[99, 105, 112, 104, 101, 114]⟩] 9)).heap[X0.heap.size]? = some (.cells #[.string ⟨(Pl.tCipher).toArray⟩] 9 (0, 0)) from heap_alloc_new X0 _)
    have hb := (Below.refl X0.heap.size X0).alloc (Nat.le_refl _) (.cells #[.string ⟨#[99, 105, 112, 104, 101, 114]⟩] 9)
    obtain ⟨A1, hA1⟩ : ∃ z, X0.heap.size = z := ⟨_, rfl⟩
    rw [hA1] at HA1
    have eA1 := hA1
    try rw [hA1]
    obtain ⟨X1, hX1⟩ : ∃ Z, X0.alloc (.cells #[.string ⟨#[99, 105, 112, 104, 101, 114]⟩] 9) = Z := ⟨_, rfl⟩
    rw [hX1] at HA1 hb ⊢
    clear hA1 hX1 eA1
    have HD1 := Lib.hid (HD0.out.trans (hb.mono HD0.out.size))
    clear hb
    refine hK.out _ _ (by exact HK0.out.keep HD1.out HKl.out) (fun hHeld => ?_)
    clear hK K
    (try simp only [Act.put, List.setIfInBounds_toArray, List.set_cons_zero, List.set_cons_succ, List.getElem_toArray, List.getElem_cons_succ, List.getElem_cons_zero])
    refine wpAnyH_ready (rs := [2, 4]) (by kernel_rfl) (by simp) (AllReadyH.cons rfl (fun K hK => ?_) (AllReadyH.cons rfl (fun K hK => ?_) AllReadyH.nil))
    · go_simp
      have HC := Lib.hid (HC1.out A1 X1 HA1.out (HV0.out.below HD1.out))
      with_reducible refine HC.out.mono ?_
      rintro _ X2 ⟨rfl, hb⟩
      clear HC
      have HD2 := Lib.hid (HD1.out.trans (hb.mono HD1.out.size))
      replace HA1 := Lib.hid ((hb.block _ (blk_lt HA1.out)).trans HA1.out)
      clear hb
      refine hK.out _ _ (by exact HK0.out.keep HD2.out HKl.out) (fun hHeld => ?_)
      clear hK K
      (try simp only [Act.put, List.setIfInBounds_toArray, List.set_cons_zero, List.set_cons_succ, List.getElem_toArray, List.getElem_cons_succ, List.getElem_cons_zero])
      refine wpAnyH_ready (rs := [4]) (by kernel_rfl) (by simp) (AllReadyH.cons rfl (fun K hK => ?_) AllReadyH.nil)
      go_simp
      have HA4 := Lib.hid (show (X2.alloc (.cells #[.string ⟨#[116, 97, 103]⟩] 9)).heap[X2.heap.size]? = some (.cells #[.string ⟨(Pl.tTag).toArray⟩] 9 (0, 0)) from heap_alloc_new X2 _)
      have hb := (Below.refl X2.heap.size X2).alloc (Nat.le_refl _) (.cells #[.string ⟨#[116, 97, 103]⟩] 9)
      obtain ⟨A4, hA4⟩ : ∃ z, X2.heap.size = z := ⟨_, rfl⟩
      rw [hA4] at HA4
      have eA4 := hA4
      try rw [hA4]
      obtain ⟨X3, hX3⟩ : ∃ Z, X2.alloc (.cells #[.string ⟨#[116, 97, 103]⟩] 9) = Z := ⟨_, rfl⟩
      rw [hX3] at HA4 hb ⊢
      clear hA4 hX3 eA4
      have HD3 := Lib.hid (HD2.out.trans (hb.mono HD2.out.size))
      replace HA1 := Lib.hid ((hb.block _ (blk_lt HA1.out)).trans HA1.out)
      clear hb
      refine hK.out _ _ (by exact HK0.out.keep HD3.out HKl.out) (fun hHeld => ?_)
      clear hK K
      (try simp only [Act.put, List.setIfInBounds_toArray, List.set_cons_zero, List.set_cons_succ, List.getElem_toArray, List.getElem_cons_succ, List.getElem_cons_zero])
      refine wpAnyH_ready (rs := [5]) (by kernel_rfl) (by simp) (AllReadyH.cons rfl (fun K hK => ?_) AllReadyH.nil)
      go_simp
      have HC := Lib.hid (HC2.out A4 X3 HA4.out (HV0.out.below HD3.out))
      with_reducible refine HC.out.mono ?_
      rintro _ X4 ⟨rfl, hb⟩
      clear HC
      have HD4 := Lib.hid (HD3.out.trans (hb.mono HD3.out.size))
      replace HA1 := Lib.hid ((hb.block _ (blk_lt HA1.out)).trans HA1.out)
      replace HA4 := Lib.hid ((hb.block _ (blk_lt HA4.out)).trans HA4.out)
      clear hb
      refine hK.out _ _ (by exact HK0.out.keep HD4.out HKl.out) (fun hHeld => ?_)
      clear hK K
      (try simp only [Act.put, List.setIfInBounds_toArray, List.set_cons_zero, List.set_cons_succ, List.getElem_toArray, List.getElem_cons_succ, List.getElem_cons_zero])
      have HR1n := Lib.hid ((HD4.out.block _ (blk_lt HR10.out)).trans HR10.out)
      have HR2n := Lib.hid ((HD4.out.block _ (blk_lt HR20.out)).trans HR20.out)
      have HBn := Lib.hid (HB0.out.trans (HD4.out.mono HB0.out.size))
      refine wpAnyH_ready (rs := [6]) (by kernel_rfl) (by simp) (AllReadyH.cons rfl (fun K hK => ?_) AllReadyH.nil)
      refine wp_store_mid 24 _ _ rfl R1 0 tA.toArray rfl rfl (thereL HR1n.out (by rw [List.size_toArray, List.size_toArray, HtA.out]; simp [u8s_len])) (by rw [List.size_toArray, HtA.out]; exact info_k) HtA1.out ?_
      have HS1 := Lib.hid (heap_setCells_all (vs := tA) HR1n.out (by rw [HtA.out]; simp [u8s_len]))
      have HS2 := Lib.hid (((grown_cells R1 tA 0 X4).block _ (blk_lt HR2n.out) (by simp; omega)).trans HR2n.out)
      have HKs := Lib.hid (show (X4.setCells R1 0 tA).rangeAt K1 0 kL from (HK0.out.keep HD4.out HKl.out).grown (grown_cells R1 tA 0 X4) (by simp; omega))
      have HBs := Lib.hid (show Below w.heap.size w (X4.setCells R1 0 tA) from HBn.out.trans (Lib.below_setCells_w (by omega) tA 0 X4))
      obtain ⟨Z, hZ⟩ : ∃ Z, X4.setCells R1 0 tA = Z := ⟨_, rfl⟩
      rw [hZ] at HS1 HS2 HKs HBs
      rw [show X4.setCells R1 0 tA.toArray.toList = Z from hZ]
      clear hZ
      refine hK.out _ _ HKs.out (fun hHeld => ?_)
      clear hK K
      (try simp only [Act.put, List.setIfInBounds_toArray, List.set_cons_zero, List.set_cons_succ, List.getElem_toArray, List.getElem_cons_succ, List.getElem_cons_zero])
      refine wpAnyH_ready (rs := [7]) (by kernel_rfl) (by simp) (AllReadyH.cons rfl (fun K hK => ?_) AllReadyH.nil)
      refine wp_store_mid 24 _ _ rfl R2 0 tB.toArray rfl rfl (thereL HS2.out (by rw [List.size_toArray, List.size_toArray, HtB.out]; simp [u8s_len])) (by rw [List.size_toArray, HtB.out]; exact info_k) HtB1.out ?_
      have HT1 := Lib.hid (((grown_cells R2 tB 0 Z).block _ (blk_lt HS1.out) (by simp; omega)).trans HS1.out)
      have HT2 := Lib.hid (heap_setCells_all (vs := tB) HS2.out (by rw [HtB.out]; simp [u8s_len]))
      have HKt := Lib.hid (show (Z.setCells R2 0 tB).rangeAt K1 0 kL from HKs.out.grown (grown_cells R2 tB 0 Z) (by simp; omega))
      have HBt := Lib.hid (show Below w.heap.size w (Z.setCells R2 0 tB) from HBs.out.trans (Lib.below_setCells_w (by omega) tB 0 Z))
      refine hK.out _ _ HKt.out (fun hHeld => ?_)
      clear hK K
      (try simp only [Act.put, List.setIfInBounds_toArray, List.set_cons_zero, List.set_cons_succ, List.getElem_toArray, List.getElem_cons_succ, List.getElem_cons_zero])
      refine wpAnyH_done (by kernel_rfl) ?_ _
      go_wp2_with fail
      refine bodyPost_ret (v := .tuple #[.agg tA.toArray, .agg tB.toArray]) (results_two rfl rfl rfl (rangeL HT1.out) (rangeL HT2.out) Tryd.underlying24 rfl (by rw [HtA.out]; exact info_k) Tryd.underlying24 rfl (by rw [HtB.out]; exact info_k)) rfl ?_
      exact ⟨by rw [HtAe.out, HtBe.out], HBt.out⟩
    · go_simp
      have HA4 := Lib.hid (show (X1.alloc (.cells #[.string ⟨#[116, 97, 103]⟩] 9)).heap[X1.heap.size]? = some (.cells #[.string ⟨(Pl.tTag).toArray⟩] 9 (0, 0)) from heap_alloc_new X1 _)
      have hb := (Below.refl X1.heap.size X1).alloc (Nat.le_refl _) (.cells #[.string ⟨#[116, 97, 103]⟩] 9)
      obtain ⟨A4, hA4⟩ : ∃ z, X1.heap.size = z := ⟨_, rfl⟩
      rw [hA4] at HA4
      have eA4 := hA4
      try rw [hA4]
      obtain ⟨X2, hX2⟩ : ∃ Z, X1.alloc (.cells #[.string ⟨#[116, 97, 103]⟩] 9) = Z := ⟨_, rfl⟩
      rw [hX2] at HA4 hb ⊢
      clear hA4 hX2 eA4
      have HD2 := Lib.hid (HD1.out.trans (hb.mono HD1.out.size))
      replace HA1 := Lib.hid ((hb.block _ (blk_lt HA1.out)).trans HA1.out)
      clear hb
      refine hK.out _ _ (by exact HK0.out.keep HD2.out HKl.out) (fun hHeld => ?_)
      clear hK K
      (try simp only [Act.put, List.setIfInBounds_toArray, List.set_cons_zero, List.set_cons_succ, List.getElem_toArray, List.getElem_cons_succ, List.getElem_cons_zero])
      refine wpAnyH_ready (rs := [2]) (by kernel_rfl) (by simp) (AllReadyH.cons rfl (fun K hK => ?_) AllReadyH.nil)
      go_simp
      have HC := Lib.hid (HC1.out A1 X2 HA1.out (HV0.out.below HD2.out))
      with_reducible refine HC.out.mono ?_
      rintro _ X3 ⟨rfl, hb⟩
      clear HC
      have HD3 := Lib.hid (HD2.out.trans (hb.mono HD2.out.size))
      replace HA1 := Lib.hid ((hb.block _ (blk_lt HA1.out)).trans HA1.out)
      replace HA4 := Lib.hid ((hb.block _ (blk_lt HA4.out)).trans HA4.out)
      clear hb
      refine hK.out _ _ (by exact HK0.out.keep HD3.out HKl.out) (fun hHeld => ?_)
      clear hK K
      (try simp only [Act.put, List.setIfInBounds_toArray, List.set_cons_zero, List.set_cons_succ, List.getElem_toArray, List.getElem_cons_succ, List.getElem_cons_zero])
      refine wpAnyH_ready (rs := [5]) (by kernel_rfl) (by simp) (AllReadyH.cons rfl (fun K hK => ?_) AllReadyH.nil)
      go_simp
      have HC := Lib.hid (HC2.out A4 X3 HA4.out (HV0.out.below HD3.out))
      with_reducible refine HC.out.mono ?_
      rintro _ X4 ⟨rfl, hb⟩
      clear HC
      have HD4 := Lib.hid (HD3.out.trans (hb.mono HD3.out.size))
      replace HA1 := Lib.hid ((hb.block _ (blk_lt HA1.out)).trans HA1.out)
      replace HA4 := Lib.hid ((hb.block _ (blk_lt HA4.out)).trans HA4.out)
      clear hb
      refine hK.out _ _ (by exact HK0.out.keep HD4.out HKl.out) (fun hHeld => ?_)
      clear hK K
      (try simp only [Act.put, List.setIfInBounds_toArray, List.set_cons_zero, List.set_cons_succ, List.getElem_toArray, List.getElem_cons_succ, List.getElem_cons_zero])
      have HR1n := Lib.hid ((HD4.out.block _ (blk_lt HR10.out)).trans HR10.out)
      have HR2n := Lib.hid ((HD4.out.block _ (blk_lt HR20.out)).trans HR20.out)
      have HBn := Lib.hid (HB0.out.trans (HD4.out.mono HB0.out.size))
      refine wpAnyH_ready (rs := [6]) (by kernel_rfl) (by simp) (AllReadyH.cons rfl (fun K hK => ?_) AllReadyH.nil)
      refine wp_store_mid 24 _ _ rfl R1 0 tA.toArray rfl rfl (thereL HR1n.out (by rw [List.size_toArray, List.size_toArray, HtA.out]; simp [u8s_len])) (by rw [List.size_toArray, HtA.out]; exact info_k) HtA1.out ?_
      have HS1 := Lib.hid (heap_setCells_all (vs := tA) HR1n.out (by rw [HtA.out]; simp [u8s_len]))
      have HS2 := Lib.hid (((grown_cells R1 tA 0 X4).block _ (blk_lt HR2n.out) (by simp; omega)).trans HR2n.out)
      have HKs := Lib.hid (show (X4.setCells R1 0 tA).rangeAt K1 0 kL from (HK0.out.keep HD4.out HKl.out).grown (grown_cells R1 tA 0 X4) (by simp; omega))
      have HBs := Lib.hid (show Below w.heap.size w (X4.setCells R1 0 tA) from HBn.out.trans (Lib.below_setCells_w (by omega) tA 0 X4))
      obtain ⟨Z, hZ⟩ : ∃ Z, X4.setCells R1 0 tA = Z := ⟨_, rfl⟩
      rw [hZ] at HS1 HS2 HKs HBs
      rw [show X4.setCells R1 0 tA.toArray.toList = Z from hZ]
      clear hZ
      refine hK.out _ _ HKs.out (fun hHeld => ?_)
      clear hK K
      (try simp only [Act.put, List.setIfInBounds_toArray, List.set_cons_zero, List.set_cons_succ, List.getElem_toArray, List.getElem_cons_succ, List.getElem_cons_zero])
      refine wpAnyH_ready (rs := [7]) (by kernel_rfl) (by simp) (AllReadyH.cons rfl (fun K hK => ?_) AllReadyH.nil)
      refine wp_store_mid 24 _ _ rfl R2 0 tB.toArray rfl rfl (thereL HS2.out (by rw [List.size_toArray, List.size_toArray, HtB.out]; simp [u8s_len])) (by rw [List.size_toArray, HtB.out]; exact info_k) HtB1.out ?_
      have HT1 := Lib.hid (((grown_cells R2 tB 0 Z).block _ (blk_lt HS1.out) (by simp; omega)).trans HS1.out)
      have HT2 := Lib.hid (heap_setCells_all (vs := tB) HS2.out (by rw [HtB.out]; simp [u8s_len]))
      have HKt := Lib.hid (show (Z.setCells R2 0 tB).rangeAt K1 0 kL from HKs.out.grown (grown_cells R2 tB 0 Z) (by simp; omega))
      have HBt := Lib.hid (show Below w.heap.size w (Z.setCells R2 0 tB) from HBs.out.trans (Lib.below_setCells_w (by omega) tB 0 Z))
      refine hK.out _ _ HKt.out (fun hHeld => ?_)
      clear hK K
      (try simp only [Act.put, List.setIfInBounds_toArray, List.set_cons_zero, List.set_cons_succ, List.getElem_toArray, List.getElem_cons_succ, List.getElem_cons_zero])
      refine wpAnyH_done (by kernel_rfl) ?_ _
      go_wp2_with fail
      refine bodyPost_ret (v := .tuple #[.agg tA.toArray, .agg tB.toArray]) (results_two rfl rfl rfl (rangeL HT1.out) (rangeL HT2.out) Tryd.underlying24 rfl (by rw [HtA.out]; exact info_k) Tryd.underlying24 rfl (by rw [HtB.out]; exact info_k)) rfl ?_
      exact ⟨by rw [HtAe.out, HtBe.out], HBt.out⟩
  · go_simp
    have HA4 := Lib.hid (show (X0.alloc (.cells #[.string ⟨#[116, 97, 103]⟩] 9)).heap[X0.heap.size]? = some (.cells #[.string ⟨(Pl.tTag).toArray⟩] 9 (0, 0)) from heap_alloc_new X0 _)
    have hb := (Below.refl X0.heap.size X0).alloc (Nat.le_refl _) (.cells #[.string ⟨#[116, 97, 103]⟩] 9)
    obtain ⟨A4, hA4⟩ : ∃ z, X0.heap.size = z := ⟨_, rfl⟩
    rw [hA4] at HA4
    have eA4 := hA4
    try rw [hA4]
    obtain ⟨X1, hX1⟩ : ∃ Z, X0.alloc (.cells #[.string ⟨#[116, 97, 103]⟩] 9) = Z := ⟨_, rfl⟩
    rw [hX1] at HA4 hb ⊢
    clear hA4 hX1 eA4
    have HD1 := Lib.hid (HD0.out.trans (hb.mono HD0.out.size))
    clear hb
    refine hK.out _ _ (by exact HK0.out.keep HD1.out HKl.out) (fun hHeld => ?_)
    clear hK K
    (try simp only [Act.put, List.setIfInBounds_toArray, List.set_cons_zero, List.set_cons_succ, List.getElem_toArray, List.getElem_cons_succ, List.getElem_cons_zero])
    refine wpAnyH_ready (rs := [1]) (by kernel_rfl) (by simp) (AllReadyH.cons rfl (fun K hK => ?_) AllReadyH.nil)
    go_simp
    have HA1 := Lib.hid (show (X1.alloc (.cells #[.string ⟨#[99, 105, 112, 104, 101, 114]⟩] 9)).heap[X1.heap.size]? = some (.cells #[.string ⟨(Pl.tCipher).toArray⟩] 9 (0, 0)) from heap_alloc_new X1 _)
    have hb := (Below.refl X1.heap.size X1).alloc (Nat.le_refl _) (.cells #[.string ⟨#[99, 105, 112, 104, 101, 114]⟩] 9)
    obtain ⟨A1, hA1⟩ : ∃ z, X1.heap.size = z := ⟨_, rfl⟩
    rw [hA1] at HA1
    have eA1 := hA1
    try rw [hA1]
    obtain ⟨X2, hX2⟩ : ∃ Z, X1.alloc (.cells #[.string ⟨#[99, 105, 112, 104, 101, 114]⟩] 9) = Z := ⟨_, rfl⟩
    rw [hX2] at HA1 hb ⊢
    clear hA1 hX2 eA1
    have HD2 := Lib.hid (HD1.out.trans (hb.mono HD1.out.size))
    replace HA4 := Lib.hid ((hb.block _ (blk_lt HA4.out)).trans HA4.out)
    clear hb
    refine hK.out _ _ (by exact HK0.out.keep HD2.out HKl.out) (fun hHeld => ?_)
    clear hK K
    (try simp only [Act.put, List.setIfInBounds_toArray, List.set_cons_zero, List.set_cons_succ, List.getElem_toArray, List.getElem_cons_succ, List.getElem_cons_zero])
    refine wpAnyH_ready (rs := [2]) (by kernel_rfl) (by simp) (AllReadyH.cons rfl (fun K hK => ?_) AllReadyH.nil)
    go_simp
    have HC := Lib.hid (HC1.out A1 X2 HA1.out (HV0.out.below HD2.out))
    with_reducible refine HC.out.mono ?_
    rintro _ X3 ⟨rfl, hb⟩
    clear HC
    have HD3 := Lib.hid (HD2.out.trans (hb.mono HD2.out.size))
    replace HA1 := Lib.hid ((hb.block _ (blk_lt HA1.out)).trans HA1.out)
    replace HA4 := Lib.hid ((hb.block _ (blk_lt HA4.out)).trans HA4.out)
    clear hb
    refine hK.out _ _ (by exact HK0.out.keep HD3.out HKl.out) (fun hHeld => ?_)
    clear hK K
    (try simp only [Act.put, List.setIfInBounds_toArray, List.set_cons_zero, List.set_cons_succ, List.getElem_toArray, List.getElem_cons_succ, List.getElem_cons_zero])
    refine wpAnyH_ready (rs := [5]) (by kernel_rfl) (by simp) (AllReadyH.cons rfl (fun K hK => ?_) AllReadyH.nil)
    go_simp
    have HC := Lib.hid (HC2.out A4 X3 HA4.out (HV0.out.below HD3.out))
    with_reducible refine HC.out.mono ?_
    rintro _ X4 ⟨rfl, hb⟩
    clear HC
    have HD4 := Lib.hid (HD3.out.trans (hb.mono HD3.out.size))
    replace HA1 := Lib.hid ((hb.block _ (blk_lt HA1.out)).trans HA1.out)
    replace HA4 := Lib.hid ((hb.block _ (blk_lt HA4.out)).trans HA4.out)
    clear hb
    refine hK.out _ _ (by exact HK0.out.keep HD4.out HKl.out) (fun hHeld => ?_)
    clear hK K
    (try simp only [Act.put, List.setIfInBounds_toArray, List.set_cons_zero, List.set_cons_succ, List.getElem_toArray, List.getElem_cons_succ, List.getElem_cons_zero])
    have HR1n := Lib.hid ((HD4.out.block _ (blk_lt HR10.out)).trans HR10.out)
    have HR2n := Lib.hid ((HD4.out.block _ (blk_lt HR20.out)).trans HR20.out)
    have HBn := Lib.hid (HB0.out.trans (HD4.out.mono HB0.out.size))
    refine wpAnyH_ready (rs := [6]) (by kernel_rfl) (by simp) (AllReadyH.cons rfl (fun K hK => ?_) AllReadyH.nil)
    refine wp_store_mid 24 _ _ rfl R1 0 tA.toArray rfl rfl (thereL HR1n.out (by rw [List.size_toArray, List.size_toArray, HtA.out]; simp [u8s_len])) (by rw [List.size_toArray, HtA.out]; exact info_k) HtA1.out ?_
    have HS1 := Lib.hid (heap_setCells_all (vs := tA) HR1n.out (by rw [HtA.out]; simp [u8s_len]))
    have HS2 := Lib.hid (((grown_cells R1 tA 0 X4).block _ (blk_lt HR2n.out) (by simp; omega)).trans HR2n.out)
    have HKs := Lib.hid (show (X4.setCells R1 0 tA).rangeAt K1 0 kL from (HK0.out.keep HD4.out HKl.out).grown (grown_cells R1 tA 0 X4) (by simp; omega))
    have HBs := Lib.hid (show Below w.heap.size w (X4.setCells R1 0 tA) from HBn.out.trans (Lib.below_setCells_w (by omega) tA 0 X4))
    obtain ⟨Z, hZ⟩ : ∃ Z, X4.setCells R1 0 tA = Z := ⟨_, rfl⟩
    rw [hZ] at HS1 HS2 HKs HBs
    rw [show X4.setCells R1 0 tA.toArray.toList = Z from hZ]
    clear hZ
    refine hK.out _ _ HKs.out (fun hHeld => ?_)
    clear hK K
    (try simp only [Act.put, List.setIfInBounds_toArray, List.set_cons_zero, List.set_cons_succ, List.getElem_toArray, List.getElem_cons_succ, List.getElem_cons_zero])
    refine wpAnyH_ready (rs := [7]) (by kernel_rfl) (by simp) (AllReadyH.cons rfl (fun K hK => ?_) AllReadyH.nil)
    refine wp_store_mid 24 _ _ rfl R2 0 tB.toArray rfl rfl (thereL HS2.out (by rw [List.size_toArray, List.size_toArray, HtB.out]; simp [u8s_len])) (by rw [List.size_toArray, HtB.out]; exact info_k) HtB1.out ?_
    have HT1 := Lib.hid (((grown_cells R2 tB 0 Z).block _ (blk_lt HS1.out) (by simp; omega)).trans HS1.out)
    have HT2 := Lib.hid (heap_setCells_all (vs := tB) HS2.out (by rw [HtB.out]; simp [u8s_len]))
    have HKt := Lib.hid (show (Z.setCells R2 0 tB).rangeAt K1 0 kL from HKs.out.grown (grown_cells R2 tB 0 Z) (by simp; omega))
    have HBt := Lib.hid (show Below w.heap.size w (Z.setCells R2 0 tB) from HBs.out.trans (Lib.below_setCells_w (by omega) tB 0 Z))
    refine hK.out _ _ HKt.out (fun hHeld => ?_)
    clear hK K
    (try simp only [Act.put, List.setIfInBounds_toArray, List.set_cons_zero, List.set_cons_succ, List.getElem_toArray, List.getElem_cons_succ, List.getElem_cons_zero])
    refine wpAnyH_done (by kernel_rfl) ?_ _
    go_wp2_with fail
    refine bodyPost_ret (v := .tuple #[.agg tA.toArray, .agg tB.toArray]) (results_two rfl rfl rfl (rangeL HT1.out) (rangeL HT2.out) Tryd.underlying24 rfl (by rw [HtA.out]; exact info_k) Tryd.underlying24 rfl (by rw [HtB.out]; exact info_k)) rfl ?_
    exact ⟨by rw [HtAe.out, HtBe.out], HBt.out⟩
end Go.Proofs.YtadoplgmeoghmaaDoor
namespace Go.Proofs.YtadoplgmeoghmaaDoor
open Go.RowKit
set_option linter.unusedVariables false
set_option linter.unusedSimpArgs false
theorem row_2 (A : Nat) (x y : List UInt8) (w : World) (hA : w.heap[A]? = some (.cells #[.string ⟨x.toArray⟩, .string ⟨y.toArray⟩] 9 (0, 0))) (hx : x.length ≤ 4398046511104) (hy : y.length ≤ 4398046511104) :
    Calls Tryd.prog 13 #[.slice (some ⟨A, 0, none⟩) 2 2] w (fun e w' => e = .returned (.string ⟨(Pl.rowB [x, y]).toArray⟩) ∧ Below w.heap.size w w') := by
  refine (row_any (some ⟨A, 0, none⟩) 2 2 [x, y] w (rowS (l := [x, y]) (by simpa [strs] using hA)) (by decide) (by simp [sumLen]; omega)).mono ?_
  rintro e w' ⟨v, rfl, rfl, hb⟩
  exact ⟨rfl, hb⟩
theorem rowB2_le (x y : List UInt8) (hx : x.length ≤ 4398046511104) (hy : y.length ≤ 4398046511104) : (Pl.rowB [x, y]).length < 4611686018427387904 := by
  have h1 := Pl.lenB_len x.length
  have h2 := Pl.lenB_len y.length
  simp [Pl.rowB]; omega
set_option maxRecDepth 1000000 in
set_option maxHeartbeats 8000000 in
theorem tag_any (k head ahead : List UInt8) (hk : k.length = 32) (hh : head.length ≤ 4398046511104) (ha : ahead.length ≤ 4398046511104) (w : World) (hv : VHash w) :
    Calls Tryd.prog 44 #[.agg (u8s k).toArray, .string ⟨head.toArray⟩, .string ⟨ahead.toArray⟩] w (fun e w' => e = .returned (.string ⟨(Pl.tagS k head ahead).toArray⟩) ∧ Below w.heap.size w w') := by
  go_enter Tryd.func44, Tryd.ntmps44
  go_upto_region 1 with (fail)
  generalize hX : w.alloc _ = X
  have HB := Lib.hid (show Below w.heap.size w X by rw [← hX]; exact (Below.refl _ _).alloc (Nat.le_refl _) _)
  have HK := Lib.hid (show X.heap[w.heap.size]? = some (.cells (u8s k).toArray 24 (0, 0)) by rw [← hX]; exact heap_alloc_new w _)
  have HV := Lib.hid (hv.below HB.out)
  clear hX hv
  obtain ⟨K1, hKe⟩ : ∃ K, w.heap.size = K := ⟨_, rfl⟩
  rw [hKe] at HK ⊢
  have k0 : w.heap.size ≤ K1 := Nat.le_of_eq hKe
  have HKe := Lib.hid hKe
  clear hKe
  obtain ⟨kL, hkL⟩ : ∃ L, u8s k = L := ⟨_, rfl⟩
  obtain ⟨z, hz⟩ : ∃ z, Pl.rowB [head, ahead] = z := ⟨_, rfl⟩
  obtain ⟨t, ht⟩ : ∃ t, Pl.tagS k head ahead = t := ⟨_, rfl⟩
  have hzt : Pl.keyedB k [z] = t := by rw [← hz]; exact ht
  have htl : t.length = 32 := by rw [← ht]; exact Pl.tagS_len _ _ _
  have hzl : z.length < 4611686018427387904 := by rw [← hz]; exact rowB2_le _ _ hh ha
  obtain ⟨tA, htA⟩ : ∃ L, u8s t = L := ⟨_, rfl⟩
  have HtA := Lib.hid (show tA.length = 32 by rw [← htA, u8s_len, htl])
  have HtA1 := Lib.hid (show tA.toArray.all (·.oneCell') = true by rw [← htA]; exact all_oneCell_toArray (u8s_one _))
  have HkL := Lib.hid (show kL.length = 32 by rw [← hkL, u8s_len, hk])
  have HCr := Lib.hid (fun A w hA => row_2 A head ahead w hA hh ha)
  have HCk := Lib.hid (fun A w hA hv => keyed_1 k hk A z hzl w hA hv)
  rw [hz] at HCr
  rw [hzt, htA] at HCk
  rw [hkL] at HK HCk ⊢
  have HtAe := Lib.hid htA
  have Hte := Lib.hid ht
  clear htA ht hzt hz hkL hzl
  refine wp_region_held_drew (S := (fun w' => w'.rangeAt K1 0 kL)) (by kernel_rfl) (by exact rangeL HK.out) (fun hHeld => ?_)
  refine wpAnyH_take (i := 0) (v := .agg (kL).toArray) rfl (by kernel_rfl) (by kernel_rfl) (by kernel_rfl) (fun _ _ _ h => h) (yieldsIf_load_mid (by kernel_rfl) 24 _ rfl K1 0 rfl kL _ (fun _ h => h) Tryd.underlying24 rfl (by rw [HkL.out]; exact info_k)) hHeld ?_
  simp only [Act.put, List.setIfInBounds_toArray, List.set_cons_zero, List.set_cons_succ, List.getElem_toArray, List.getElem_cons_succ, List.getElem_cons_zero]
  refine wpAnyH_take (i := 1) (v := ?_) rfl (by kernel_rfl) (by kernel_rfl) (by kernel_rfl) (fun _ _ _ h => h) (Or.inl ⟨by kernel_rfl, ?_⟩) hHeld ?_
  rotate_left
  · (intro w' hSw; (try dsimp only at hSw); go_simp; try with_reducible rfl)
  simp only [Act.put, List.setIfInBounds_toArray, List.set_cons_zero, List.set_cons_succ, List.getElem_toArray, List.getElem_cons_succ, List.getElem_cons_zero]
  refine wpAnyH_take (i := 2) (v := ?_) rfl (by kernel_rfl) (by kernel_rfl) (by kernel_rfl) (fun _ _ _ h => h) (Or.inl ⟨by kernel_rfl, ?_⟩) hHeld ?_
  rotate_left
  · (intro w' hSw; (try dsimp only at hSw); go_simp; try with_reducible rfl)
  simp only [Act.put, List.setIfInBounds_toArray, List.set_cons_zero, List.set_cons_succ, List.getElem_toArray, List.getElem_cons_succ, List.getElem_cons_zero]
  obtain ⟨X0, hX0⟩ : ∃ Z, X.drew = Z := ⟨_, rfl⟩
  have HB0 := Lib.hid (show Below w.heap.size w X0 by rw [← hX0]; exact HB.out.drew)
  have HK0 := Lib.hid (show X0.rangeAt K1 0 kL by rw [← hX0]; exact rangeL HK.out)
  have HV0 := Lib.hid (show VHash X0 by rw [← hX0]; exact ⟨HV.out.e, HV.out.r⟩)
  have HKl := Lib.hid (show K1 < X0.heap.size by rw [← hX0]; exact blk_lt HK.out)
  rw [hX0] at hHeld ⊢
  have HD0 := Lib.hid (Below.refl X0.heap.size X0)
  clear hX0 HB HK HV
  refine wpAnyH_ready (rs := [3, 7]) (by kernel_rfl) (by simp) (AllReadyH.cons rfl (fun K hK => ?_) (AllReadyH.cons rfl (fun K hK => ?_) AllReadyH.nil))
  · go_simp
    have HA3 := Lib.hid (show (X0.alloc (.cells #[.string ⟨head.toArray⟩, .string ⟨ahead.toArray⟩] 9)).heap[X0.heap.size]? = some (.cells #[.string ⟨head.toArray⟩, .string ⟨ahead.toArray⟩] 9 (0, 0)) from heap_alloc_new X0 _)
    have hb := (Below.refl X0.heap.size X0).alloc (Nat.le_refl _) (.cells #[.string ⟨head.toArray⟩, .string ⟨ahead.toArray⟩] 9)
    obtain ⟨A3, hA3⟩ : ∃ z, X0.heap.size = z := ⟨_, rfl⟩
    rw [hA3] at HA3
    try rw [hA3]
    obtain ⟨X1, hX1⟩ : ∃ Z, X0.alloc (.cells #[.string ⟨head.toArray⟩, .string ⟨ahead.toArray⟩] 9) = Z := ⟨_, rfl⟩
    rw [hX1] at HA3 hb ⊢
    have el3 := Lib.hid hA3
    clear hA3 hX1
    clear el3
    have HD1 := Lib.hid (HD0.out.trans (hb.mono HD0.out.size))
    clear hb
    refine hK.out _ _ (by exact HK0.out.keep HD1.out HKl.out) (fun hHeld => ?_)
    clear hK K
    (try simp only [Act.put, List.setIfInBounds_toArray, List.set_cons_zero, List.set_cons_succ, List.getElem_toArray, List.getElem_cons_succ, List.getElem_cons_zero])
    refine wpAnyH_ready (rs := [4, 7]) (by kernel_rfl) (by simp) (AllReadyH.cons rfl (fun K hK => ?_) (AllReadyH.cons rfl (fun K hK => ?_) AllReadyH.nil))
    · go_simp
      have HC := Lib.hid (HCr.out A3 X1 HA3.out)
      with_reducible refine HC.out.mono ?_
      rintro _ X2 ⟨rfl, hb⟩
      clear HC
      have HD2 := Lib.hid (HD1.out.trans (hb.mono HD1.out.size))
      replace HA3 := Lib.hid ((hb.block _ (blk_lt HA3.out)).trans HA3.out)
      clear hb
      refine hK.out _ _ (by exact HK0.out.keep HD2.out HKl.out) (fun hHeld => ?_)
      clear hK K
      (try simp only [Act.put, List.setIfInBounds_toArray, List.set_cons_zero, List.set_cons_succ, List.getElem_toArray, List.getElem_cons_succ, List.getElem_cons_zero])
      refine wpAnyH_ready (rs := [5, 7]) (by kernel_rfl) (by simp) (AllReadyH.cons rfl (fun K hK => ?_) (AllReadyH.cons rfl (fun K hK => ?_) AllReadyH.nil))
      · go_simp
        have HA5 := Lib.hid (show (X2.alloc (.cells #[.string ⟨z.toArray⟩] 9)).heap[X2.heap.size]? = some (.cells #[.string ⟨z.toArray⟩] 9 (0, 0)) from heap_alloc_new X2 _)
        have hb := (Below.refl X2.heap.size X2).alloc (Nat.le_refl _) (.cells #[.string ⟨z.toArray⟩] 9)
        obtain ⟨A5, hA5⟩ : ∃ z, X2.heap.size = z := ⟨_, rfl⟩
        rw [hA5] at HA5
        try rw [hA5]
        obtain ⟨X3, hX3⟩ : ∃ Z, X2.alloc (.cells #[.string ⟨z.toArray⟩] 9) = Z := ⟨_, rfl⟩
        rw [hX3] at HA5 hb ⊢
        have el5 := Lib.hid hA5
        clear hA5 hX3
        clear el5
        have HD3 := Lib.hid (HD2.out.trans (hb.mono HD2.out.size))
        replace HA3 := Lib.hid ((hb.block _ (blk_lt HA3.out)).trans HA3.out)
        clear hb
        refine hK.out _ _ (by exact HK0.out.keep HD3.out HKl.out) (fun hHeld => ?_)
        clear hK K
        (try simp only [Act.put, List.setIfInBounds_toArray, List.set_cons_zero, List.set_cons_succ, List.getElem_toArray, List.getElem_cons_succ, List.getElem_cons_zero])
        refine wpAnyH_ready (rs := [6, 7]) (by kernel_rfl) (by simp) (AllReadyH.cons rfl (fun K hK => ?_) (AllReadyH.cons rfl (fun K hK => ?_) AllReadyH.nil))
        · go_simp
          have HC := Lib.hid (HCk.out A5 X3 HA5.out (HV0.out.below HD3.out))
          with_reducible refine HC.out.mono ?_
          rintro _ X4 ⟨rfl, hb⟩
          clear HC
          have HD4 := Lib.hid (HD3.out.trans (hb.mono HD3.out.size))
          replace HA3 := Lib.hid ((hb.block _ (blk_lt HA3.out)).trans HA3.out)
          replace HA5 := Lib.hid ((hb.block _ (blk_lt HA5.out)).trans HA5.out)
          clear hb
          refine hK.out _ _ (by exact HK0.out.keep HD4.out HKl.out) (fun hHeld => ?_)
          clear hK K
          (try simp only [Act.put, List.setIfInBounds_toArray, List.set_cons_zero, List.set_cons_succ, List.getElem_toArray, List.getElem_cons_succ, List.getElem_cons_zero])
          refine wpAnyH_ready (rs := [7]) (by kernel_rfl) (by simp) (AllReadyH.cons rfl (fun K hK => ?_) AllReadyH.nil)
          go_simp
          have HA7 := Lib.hid (show (X4.alloc (.cells #[.int .u8 0, .int .u8 0, .int .u8 0, .int .u8 0, .int .u8 0, .int .u8 0, .int .u8 0, .int .u8 0, .int .u8 0, .int .u8 0, .int .u8 0, .int .u8 0, .int .u8 0, .int .u8 0, .int .u8 0, .int .u8 0, .int .u8 0, .int .u8 0, .int .u8 0, .int .u8 0, .int .u8 0, .int .u8 0, .int .u8 0, .int .u8 0, .int .u8 0, .int .u8 0, .int .u8 0, .int .u8 0, .int .u8 0, .int .u8 0, .int .u8 0, .int .u8 0] 29)).heap[X4.heap.size]? = some (.cells (u8s (List.replicate 32 0)).toArray 29 (0, 0)) from heap_alloc_new X4 _)
          have hb := (Below.refl X4.heap.size X4).alloc (Nat.le_refl _) (.cells #[.int .u8 0, .int .u8 0, .int .u8 0, .int .u8 0, .int .u8 0, .int .u8 0, .int .u8 0, .int .u8 0, .int .u8 0, .int .u8 0, .int .u8 0, .int .u8 0, .int .u8 0, .int .u8 0, .int .u8 0, .int .u8 0, .int .u8 0, .int .u8 0, .int .u8 0, .int .u8 0, .int .u8 0, .int .u8 0, .int .u8 0, .int .u8 0, .int .u8 0, .int .u8 0, .int .u8 0, .int .u8 0, .int .u8 0, .int .u8 0, .int .u8 0, .int .u8 0] 29)
          obtain ⟨A7, hA7⟩ : ∃ z, X4.heap.size = z := ⟨_, rfl⟩
          rw [hA7] at HA7
          try rw [hA7]
          obtain ⟨X5, hX5⟩ : ∃ Z, X4.alloc (.cells #[.int .u8 0, .int .u8 0, .int .u8 0, .int .u8 0, .int .u8 0, .int .u8 0, .int .u8 0, .int .u8 0, .int .u8 0, .int .u8 0, .int .u8 0, .int .u8 0, .int .u8 0, .int .u8 0, .int .u8 0, .int .u8 0, .int .u8 0, .int .u8 0, .int .u8 0, .int .u8 0, .int .u8 0, .int .u8 0, .int .u8 0, .int .u8 0, .int .u8 0, .int .u8 0, .int .u8 0, .int .u8 0, .int .u8 0, .int .u8 0, .int .u8 0, .int .u8 0] 29) = Z := ⟨_, rfl⟩
          rw [hX5] at HA7 hb ⊢
          have el7 := Lib.hid hA7
          clear hA7 hX5
          have l7 : X0.heap.size ≤ A7 := by rw [← el7.out]; exact HD4.out.size
          clear el7
          have HD5 := Lib.hid (HD4.out.trans (hb.mono HD4.out.size))
          replace HA3 := Lib.hid ((hb.block _ (blk_lt HA3.out)).trans HA3.out)
          replace HA5 := Lib.hid ((hb.block _ (blk_lt HA5.out)).trans HA5.out)
          clear hb
          refine hK.out _ _ (by exact HK0.out.keep HD5.out HKl.out) (fun hHeld => ?_)
          clear hK K
          (try simp only [Act.put, List.setIfInBounds_toArray, List.set_cons_zero, List.set_cons_succ, List.getElem_toArray, List.getElem_cons_succ, List.getElem_cons_zero])
          have HBn := Lib.hid (HB0.out.trans (HD5.out.mono HB0.out.size))
          have HKn := Lib.hid (HK0.out.keep HD5.out HKl.out)
          have hlK : K1 < A7 := Nat.lt_of_lt_of_le HKl.out l7
          refine wpAnyH_ready (rs := [8]) (by kernel_rfl) (by simp) (AllReadyH.cons rfl (fun K hK => ?_) AllReadyH.nil)
          refine wp_store_mid 29 _ _ rfl A7 0 tA.toArray rfl rfl (thereL HA7.out (by rw [List.size_toArray, List.size_toArray, HtA.out]; simp [u8s_len])) (by rw [List.size_toArray, HtA.out]; exact info_d32) HtA1.out ?_
          have HS1 := Lib.hid (heap_setCells_all (vs := tA) HA7.out (by rw [HtA.out]; simp [u8s_len]))
          have HKs := Lib.hid (show (X5.setCells A7 0 tA).rangeAt K1 0 kL from HKn.out.grown (grown_cells A7 tA 0 X5) (by simp; omega))
          have HBs := Lib.hid (show Below w.heap.size w (X5.setCells A7 0 tA) from HBn.out.trans (Lib.below_setCells_w (by omega) tA 0 X5))
          obtain ⟨Z, hZ⟩ : ∃ Z, X5.setCells A7 0 tA = Z := ⟨_, rfl⟩
          rw [hZ] at HS1 HKs HBs
          rw [show X5.setCells A7 0 tA.toArray.toList = Z from hZ]
          clear hZ
          refine hK.out _ _ HKs.out (fun hHeld => ?_)
          clear hK K
          (try simp only [Act.put, List.setIfInBounds_toArray, List.set_cons_zero, List.set_cons_succ, List.getElem_toArray, List.getElem_cons_succ, List.getElem_cons_zero])
          refine wpAnyH_done (by kernel_rfl) ?_ _
          have hconv : (convert 71 9 (.slice (some ⟨A7, 0, none⟩) 32 32)).run Tryd.prog Z = .ok (.string ⟨t.toArray⟩) Z := bytes_conv Z A7 0 32 32 t htl (fun j hj => by
            have h0 := HS1.out
            rw [← HtAe.out] at h0
            rw [Nat.zero_add, u8s_cell h0 j hj]
            simp [List.getD_eq_getElem?_getD, List.getElem?_eq_getElem hj])
          go_wp2_with fail
          go_ret
          exact ⟨by rw [Hte.out]; rfl, HBs.out⟩
        · go_simp
          have HA7 := Lib.hid (show (X3.alloc (.cells #[.int .u8 0, .int .u8 0, .int .u8 0, .int .u8 0, .int .u8 0, .int .u8 0, .int .u8 0, .int .u8 0, .int .u8 0, .int .u8 0, .int .u8 0, .int .u8 0, .int .u8 0, .int .u8 0, .int .u8 0, .int .u8 0, .int .u8 0, .int .u8 0, .int .u8 0, .int .u8 0, .int .u8 0, .int .u8 0, .int .u8 0, .int .u8 0, .int .u8 0, .int .u8 0, .int .u8 0, .int .u8 0, .int .u8 0, .int .u8 0, .int .u8 0, .int .u8 0] 29)).heap[X3.heap.size]? = some (.cells (u8s (List.replicate 32 0)).toArray 29 (0, 0)) from heap_alloc_new X3 _)
          have hb := (Below.refl X3.heap.size X3).alloc (Nat.le_refl _) (.cells #[.int .u8 0, .int .u8 0, .int .u8 0, .int .u8 0, .int .u8 0, .int .u8 0, .int .u8 0, .int .u8 0, .int .u8 0, .int .u8 0, .int .u8 0, .int .u8 0, .int .u8 0, .int .u8 0, .int .u8 0, .int .u8 0, .int .u8 0, .int .u8 0, .int .u8 0, .int .u8 0, .int .u8 0, .int .u8 0, .int .u8 0, .int .u8 0, .int .u8 0, .int .u8 0, .int .u8 0, .int .u8 0, .int .u8 0, .int .u8 0, .int .u8 0, .int .u8 0] 29)
          obtain ⟨A7, hA7⟩ : ∃ z, X3.heap.size = z := ⟨_, rfl⟩
          rw [hA7] at HA7
          try rw [hA7]
          obtain ⟨X4, hX4⟩ : ∃ Z, X3.alloc (.cells #[.int .u8 0, .int .u8 0, .int .u8 0, .int .u8 0, .int .u8 0, .int .u8 0, .int .u8 0, .int .u8 0, .int .u8 0, .int .u8 0, .int .u8 0, .int .u8 0, .int .u8 0, .int .u8 0, .int .u8 0, .int .u8 0, .int .u8 0, .int .u8 0, .int .u8 0, .int .u8 0, .int .u8 0, .int .u8 0, .int .u8 0, .int .u8 0, .int .u8 0, .int .u8 0, .int .u8 0, .int .u8 0, .int .u8 0, .int .u8 0, .int .u8 0, .int .u8 0] 29) = Z := ⟨_, rfl⟩
          rw [hX4] at HA7 hb ⊢
          have el7 := Lib.hid hA7
          clear hA7 hX4
          have l7 : X0.heap.size ≤ A7 := by rw [← el7.out]; exact HD3.out.size
          clear el7
          have HD4 := Lib.hid (HD3.out.trans (hb.mono HD3.out.size))
          replace HA3 := Lib.hid ((hb.block _ (blk_lt HA3.out)).trans HA3.out)
          replace HA5 := Lib.hid ((hb.block _ (blk_lt HA5.out)).trans HA5.out)
          clear hb
          refine hK.out _ _ (by exact HK0.out.keep HD4.out HKl.out) (fun hHeld => ?_)
          clear hK K
          (try simp only [Act.put, List.setIfInBounds_toArray, List.set_cons_zero, List.set_cons_succ, List.getElem_toArray, List.getElem_cons_succ, List.getElem_cons_zero])
          refine wpAnyH_ready (rs := [6]) (by kernel_rfl) (by simp) (AllReadyH.cons rfl (fun K hK => ?_) AllReadyH.nil)
          go_simp
          have HC := Lib.hid (HCk.out A5 X4 HA5.out (HV0.out.below HD4.out))
          with_reducible refine HC.out.mono ?_
          rintro _ X5 ⟨rfl, hb⟩
          clear HC
          have HD5 := Lib.hid (HD4.out.trans (hb.mono HD4.out.size))
          replace HA3 := Lib.hid ((hb.block _ (blk_lt HA3.out)).trans HA3.out)
          replace HA5 := Lib.hid ((hb.block _ (blk_lt HA5.out)).trans HA5.out)
          replace HA7 := Lib.hid ((hb.block _ (blk_lt HA7.out)).trans HA7.out)
          clear hb
          refine hK.out _ _ (by exact HK0.out.keep HD5.out HKl.out) (fun hHeld => ?_)
          clear hK K
          (try simp only [Act.put, List.setIfInBounds_toArray, List.set_cons_zero, List.set_cons_succ, List.getElem_toArray, List.getElem_cons_succ, List.getElem_cons_zero])
          have HBn := Lib.hid (HB0.out.trans (HD5.out.mono HB0.out.size))
          have HKn := Lib.hid (HK0.out.keep HD5.out HKl.out)
          have hlK : K1 < A7 := Nat.lt_of_lt_of_le HKl.out l7
          refine wpAnyH_ready (rs := [8]) (by kernel_rfl) (by simp) (AllReadyH.cons rfl (fun K hK => ?_) AllReadyH.nil)
          refine wp_store_mid 29 _ _ rfl A7 0 tA.toArray rfl rfl (thereL HA7.out (by rw [List.size_toArray, List.size_toArray, HtA.out]; simp [u8s_len])) (by rw [List.size_toArray, HtA.out]; exact info_d32) HtA1.out ?_
          have HS1 := Lib.hid (heap_setCells_all (vs := tA) HA7.out (by rw [HtA.out]; simp [u8s_len]))
          have HKs := Lib.hid (show (X5.setCells A7 0 tA).rangeAt K1 0 kL from HKn.out.grown (grown_cells A7 tA 0 X5) (by simp; omega))
          have HBs := Lib.hid (show Below w.heap.size w (X5.setCells A7 0 tA) from HBn.out.trans (Lib.below_setCells_w (by omega) tA 0 X5))
          obtain ⟨Z, hZ⟩ : ∃ Z, X5.setCells A7 0 tA = Z := ⟨_, rfl⟩
          rw [hZ] at HS1 HKs HBs
          rw [show X5.setCells A7 0 tA.toArray.toList = Z from hZ]
          clear hZ
          refine hK.out _ _ HKs.out (fun hHeld => ?_)
          clear hK K
          (try simp only [Act.put, List.setIfInBounds_toArray, List.set_cons_zero, List.set_cons_succ, List.getElem_toArray, List.getElem_cons_succ, List.getElem_cons_zero])
          refine wpAnyH_done (by kernel_rfl) ?_ _
          have hconv : (convert 71 9 (.slice (some ⟨A7, 0, none⟩) 32 32)).run Tryd.prog Z = .ok (.string ⟨t.toArray⟩) Z := bytes_conv Z A7 0 32 32 t htl (fun j hj => by
            have h0 := HS1.out
            rw [← HtAe.out] at h0
            rw [Nat.zero_add, u8s_cell h0 j hj]
            simp [List.getD_eq_getElem?_getD, List.getElem?_eq_getElem hj])
          go_wp2_with fail
          go_ret
          exact ⟨by rw [Hte.out]; rfl, HBs.out⟩
      · go_simp
        have HA7 := Lib.hid (show (X2.alloc (.cells #[.int .u8 0, .int .u8 0, .int .u8 0, .int .u8 0, .int .u8 0, .int .u8 0, .int .u8 0, .int .u8 0, .int .u8 0, .int .u8 0, .int .u8 0, .int .u8 0, .int .u8 0, .int .u8 0, .int .u8 0, .int .u8 0, .int .u8 0, .int .u8 0, .int .u8 0, .int .u8 0, .int .u8 0, .int .u8 0, .int .u8 0, .int .u8 0, .int .u8 0, .int .u8 0, .int .u8 0, .int .u8 0, .int .u8 0, .int .u8 0, .int .u8 0, .int .u8 0] 29)).heap[X2.heap.size]? = some (.cells (u8s (List.replicate 32 0)).toArray 29 (0, 0)) from heap_alloc_new X2 _)
        have hb := (Below.refl X2.heap.size X2).alloc (Nat.le_refl _) (.cells #[.int .u8 0, .int .u8 0, .int .u8 0, .int .u8 0, .int .u8 0, .int .u8 0, .int .u8 0, .int .u8 0, .int .u8 0, .int .u8 0, .int .u8 0, .int .u8 0, .int .u8 0, .int .u8 0, .int .u8 0, .int .u8 0, .int .u8 0, .int .u8 0, .int .u8 0, .int .u8 0, .int .u8 0, .int .u8 0, .int .u8 0, .int .u8 0, .int .u8 0, .int .u8 0, .int .u8 0, .int .u8 0, .int .u8 0, .int .u8 0, .int .u8 0, .int .u8 0] 29)
        obtain ⟨A7, hA7⟩ : ∃ z, X2.heap.size = z := ⟨_, rfl⟩
        rw [hA7] at HA7
        try rw [hA7]
        obtain ⟨X3, hX3⟩ : ∃ Z, X2.alloc (.cells #[.int .u8 0, .int .u8 0, .int .u8 0, .int .u8 0, .int .u8 0, .int .u8 0, .int .u8 0, .int .u8 0, .int .u8 0, .int .u8 0, .int .u8 0, .int .u8 0, .int .u8 0, .int .u8 0, .int .u8 0, .int .u8 0, .int .u8 0, .int .u8 0, .int .u8 0, .int .u8 0, .int .u8 0, .int .u8 0, .int .u8 0, .int .u8 0, .int .u8 0, .int .u8 0, .int .u8 0, .int .u8 0, .int .u8 0, .int .u8 0, .int .u8 0, .int .u8 0] 29) = Z := ⟨_, rfl⟩
        rw [hX3] at HA7 hb ⊢
        have el7 := Lib.hid hA7
        clear hA7 hX3
        have l7 : X0.heap.size ≤ A7 := by rw [← el7.out]; exact HD2.out.size
        clear el7
        have HD3 := Lib.hid (HD2.out.trans (hb.mono HD2.out.size))
        replace HA3 := Lib.hid ((hb.block _ (blk_lt HA3.out)).trans HA3.out)
        clear hb
        refine hK.out _ _ (by exact HK0.out.keep HD3.out HKl.out) (fun hHeld => ?_)
        clear hK K
        (try simp only [Act.put, List.setIfInBounds_toArray, List.set_cons_zero, List.set_cons_succ, List.getElem_toArray, List.getElem_cons_succ, List.getElem_cons_zero])
        refine wpAnyH_ready (rs := [5]) (by kernel_rfl) (by simp) (AllReadyH.cons rfl (fun K hK => ?_) AllReadyH.nil)
        go_simp
        have HA5 := Lib.hid (show (X3.alloc (.cells #[.string ⟨z.toArray⟩] 9)).heap[X3.heap.size]? = some (.cells #[.string ⟨z.toArray⟩] 9 (0, 0)) from heap_alloc_new X3 _)
        have hb := (Below.refl X3.heap.size X3).alloc (Nat.le_refl _) (.cells #[.string ⟨z.toArray⟩] 9)
        obtain ⟨A5, hA5⟩ : ∃ z, X3.heap.size = z := ⟨_, rfl⟩
        rw [hA5] at HA5
        try rw [hA5]
        obtain ⟨X4, hX4⟩ : ∃ Z, X3.alloc (.cells #[.string ⟨z.toArray⟩] 9) = Z := ⟨_, rfl⟩
        rw [hX4] at HA5 hb ⊢
        have el5 := Lib.hid hA5
        clear hA5 hX4
        clear el5
        have HD4 := Lib.hid (HD3.out.trans (hb.mono HD3.out.size))
        replace HA3 := Lib.hid ((hb.block _ (blk_lt HA3.out)).trans HA3.out)
        replace HA7 := Lib.hid ((hb.block _ (blk_lt HA7.out)).trans HA7.out)
        clear hb
        refine hK.out _ _ (by exact HK0.out.keep HD4.out HKl.out) (fun hHeld => ?_)
        clear hK K
        (try simp only [Act.put, List.setIfInBounds_toArray, List.set_cons_zero, List.set_cons_succ, List.getElem_toArray, List.getElem_cons_succ, List.getElem_cons_zero])
        refine wpAnyH_ready (rs := [6]) (by kernel_rfl) (by simp) (AllReadyH.cons rfl (fun K hK => ?_) AllReadyH.nil)
        go_simp
        have HC := Lib.hid (HCk.out A5 X4 HA5.out (HV0.out.below HD4.out))
        with_reducible refine HC.out.mono ?_
        rintro _ X5 ⟨rfl, hb⟩
        clear HC
        have HD5 := Lib.hid (HD4.out.trans (hb.mono HD4.out.size))
        replace HA3 := Lib.hid ((hb.block _ (blk_lt HA3.out)).trans HA3.out)
        replace HA7 := Lib.hid ((hb.block _ (blk_lt HA7.out)).trans HA7.out)
        replace HA5 := Lib.hid ((hb.block _ (blk_lt HA5.out)).trans HA5.out)
        clear hb
        refine hK.out _ _ (by exact HK0.out.keep HD5.out HKl.out) (fun hHeld => ?_)
        clear hK K
        (try simp only [Act.put, List.setIfInBounds_toArray, List.set_cons_zero, List.set_cons_succ, List.getElem_toArray, List.getElem_cons_succ, List.getElem_cons_zero])
        have HBn := Lib.hid (HB0.out.trans (HD5.out.mono HB0.out.size))
        have HKn := Lib.hid (HK0.out.keep HD5.out HKl.out)
        have hlK : K1 < A7 := Nat.lt_of_lt_of_le HKl.out l7
        refine wpAnyH_ready (rs := [8]) (by kernel_rfl) (by simp) (AllReadyH.cons rfl (fun K hK => ?_) AllReadyH.nil)
        refine wp_store_mid 29 _ _ rfl A7 0 tA.toArray rfl rfl (thereL HA7.out (by rw [List.size_toArray, List.size_toArray, HtA.out]; simp [u8s_len])) (by rw [List.size_toArray, HtA.out]; exact info_d32) HtA1.out ?_
        have HS1 := Lib.hid (heap_setCells_all (vs := tA) HA7.out (by rw [HtA.out]; simp [u8s_len]))
        have HKs := Lib.hid (show (X5.setCells A7 0 tA).rangeAt K1 0 kL from HKn.out.grown (grown_cells A7 tA 0 X5) (by simp; omega))
        have HBs := Lib.hid (show Below w.heap.size w (X5.setCells A7 0 tA) from HBn.out.trans (Lib.below_setCells_w (by omega) tA 0 X5))
        obtain ⟨Z, hZ⟩ : ∃ Z, X5.setCells A7 0 tA = Z := ⟨_, rfl⟩
        rw [hZ] at HS1 HKs HBs
        rw [show X5.setCells A7 0 tA.toArray.toList = Z from hZ]
        clear hZ
        refine hK.out _ _ HKs.out (fun hHeld => ?_)
        clear hK K
        (try simp only [Act.put, List.setIfInBounds_toArray, List.set_cons_zero, List.set_cons_succ, List.getElem_toArray, List.getElem_cons_succ, List.getElem_cons_zero])
        refine wpAnyH_done (by kernel_rfl) ?_ _
        have hconv : (convert 71 9 (.slice (some ⟨A7, 0, none⟩) 32 32)).run Tryd.prog Z = .ok (.string ⟨t.toArray⟩) Z := bytes_conv Z A7 0 32 32 t htl (fun j hj => by
          have h0 := HS1.out
          rw [← HtAe.out] at h0
          rw [Nat.zero_add, u8s_cell h0 j hj]
          simp [List.getD_eq_getElem?_getD, List.getElem?_eq_getElem hj])
        go_wp2_with fail
        go_ret
        exact ⟨by rw [Hte.out]; rfl, HBs.out⟩
    · go_simp
      have HA7 := Lib.hid (show (X1.alloc (.cells #[.int .u8 0, .int .u8 0, .int .u8 0, .int .u8 0, .int .u8 0, .int .u8 0, .int .u8 0, .int .u8 0, .int .u8 0, .int .u8 0, .int .u8 0, .int .u8 0, .int .u8 0, .int .u8 0, .int .u8 0, .int .u8 0, .int .u8 0, .int .u8 0, .int .u8 0, .int .u8 0, .int .u8 0, .int .u8 0, .int .u8 0, .int .u8 0, .int .u8 0, .int .u8 0, .int .u8 0, .int .u8 0, .int .u8 0, .int .u8 0, .int .u8 0, .int .u8 0] 29)).heap[X1.heap.size]? = some (.cells (u8s (List.replicate 32 0)).toArray 29 (0, 0)) from heap_alloc_new X1 _)
      have hb := (Below.refl X1.heap.size X1).alloc (Nat.le_refl _) (.cells #[.int .u8 0, .int .u8 0, .int .u8 0, .int .u8 0, .int .u8 0, .int .u8 0, .int .u8 0, .int .u8 0, .int .u8 0, .int .u8 0, .int .u8 0, .int .u8 0, .int .u8 0, .int .u8 0, .int .u8 0, .int .u8 0, .int .u8 0, .int .u8 0, .int .u8 0, .int .u8 0, .int .u8 0, .int .u8 0, .int .u8 0, .int .u8 0, .int .u8 0, .int .u8 0, .int .u8 0, .int .u8 0, .int .u8 0, .int .u8 0, .int .u8 0, .int .u8 0] 29)
      obtain ⟨A7, hA7⟩ : ∃ z, X1.heap.size = z := ⟨_, rfl⟩
      rw [hA7] at HA7
      try rw [hA7]
      obtain ⟨X2, hX2⟩ : ∃ Z, X1.alloc (.cells #[.int .u8 0, .int .u8 0, .int .u8 0, .int .u8 0, .int .u8 0, .int .u8 0, .int .u8 0, .int .u8 0, .int .u8 0, .int .u8 0, .int .u8 0, .int .u8 0, .int .u8 0, .int .u8 0, .int .u8 0, .int .u8 0, .int .u8 0, .int .u8 0, .int .u8 0, .int .u8 0, .int .u8 0, .int .u8 0, .int .u8 0, .int .u8 0, .int .u8 0, .int .u8 0, .int .u8 0, .int .u8 0, .int .u8 0, .int .u8 0, .int .u8 0, .int .u8 0] 29) = Z := ⟨_, rfl⟩
      rw [hX2] at HA7 hb ⊢
      have el7 := Lib.hid hA7
      clear hA7 hX2
      have l7 : X0.heap.size ≤ A7 := by rw [← el7.out]; exact HD1.out.size
      clear el7
      have HD2 := Lib.hid (HD1.out.trans (hb.mono HD1.out.size))
      replace HA3 := Lib.hid ((hb.block _ (blk_lt HA3.out)).trans HA3.out)
      clear hb
      refine hK.out _ _ (by exact HK0.out.keep HD2.out HKl.out) (fun hHeld => ?_)
      clear hK K
      (try simp only [Act.put, List.setIfInBounds_toArray, List.set_cons_zero, List.set_cons_succ, List.getElem_toArray, List.getElem_cons_succ, List.getElem_cons_zero])
      refine wpAnyH_ready (rs := [4]) (by kernel_rfl) (by simp) (AllReadyH.cons rfl (fun K hK => ?_) AllReadyH.nil)
      go_simp
      have HC := Lib.hid (HCr.out A3 X2 HA3.out)
      with_reducible refine HC.out.mono ?_
      rintro _ X3 ⟨rfl, hb⟩
      clear HC
      have HD3 := Lib.hid (HD2.out.trans (hb.mono HD2.out.size))
      replace HA3 := Lib.hid ((hb.block _ (blk_lt HA3.out)).trans HA3.out)
      replace HA7 := Lib.hid ((hb.block _ (blk_lt HA7.out)).trans HA7.out)
      clear hb
      refine hK.out _ _ (by exact HK0.out.keep HD3.out HKl.out) (fun hHeld => ?_)
      clear hK K
      (try simp only [Act.put, List.setIfInBounds_toArray, List.set_cons_zero, List.set_cons_succ, List.getElem_toArray, List.getElem_cons_succ, List.getElem_cons_zero])
      refine wpAnyH_ready (rs := [5]) (by kernel_rfl) (by simp) (AllReadyH.cons rfl (fun K hK => ?_) AllReadyH.nil)
      go_simp
      have HA5 := Lib.hid (show (X3.alloc (.cells #[.string ⟨z.toArray⟩] 9)).heap[X3.heap.size]? = some (.cells #[.string ⟨z.toArray⟩] 9 (0, 0)) from heap_alloc_new X3 _)
      have hb := (Below.refl X3.heap.size X3).alloc (Nat.le_refl _) (.cells #[.string ⟨z.toArray⟩] 9)
      obtain ⟨A5, hA5⟩ : ∃ z, X3.heap.size = z := ⟨_, rfl⟩
      rw [hA5] at HA5
      try rw [hA5]
      obtain ⟨X4, hX4⟩ : ∃ Z, X3.alloc (.cells #[.string ⟨z.toArray⟩] 9) = Z := ⟨_, rfl⟩
      rw [hX4] at HA5 hb ⊢
      have el5 := Lib.hid hA5
      clear hA5 hX4
      clear el5
      have HD4 := Lib.hid (HD3.out.trans (hb.mono HD3.out.size))
      replace HA3 := Lib.hid ((hb.block _ (blk_lt HA3.out)).trans HA3.out)
      replace HA7 := Lib.hid ((hb.block _ (blk_lt HA7.out)).trans HA7.out)
      clear hb
      refine hK.out _ _ (by exact HK0.out.keep HD4.out HKl.out) (fun hHeld => ?_)
      clear hK K
      (try simp only [Act.put, List.setIfInBounds_toArray, List.set_cons_zero, List.set_cons_succ, List.getElem_toArray, List.getElem_cons_succ, List.getElem_cons_zero])
      refine wpAnyH_ready (rs := [6]) (by kernel_rfl) (by simp) (AllReadyH.cons rfl (fun K hK => ?_) AllReadyH.nil)
      go_simp
      have HC := Lib.hid (HCk.out A5 X4 HA5.out (HV0.out.below HD4.out))
      with_reducible refine HC.out.mono ?_
      rintro _ X5 ⟨rfl, hb⟩
      clear HC
      have HD5 := Lib.hid (HD4.out.trans (hb.mono HD4.out.size))
      replace HA3 := Lib.hid ((hb.block _ (blk_lt HA3.out)).trans HA3.out)
      replace HA7 := Lib.hid ((hb.block _ (blk_lt HA7.out)).trans HA7.out)
      replace HA5 := Lib.hid ((hb.block _ (blk_lt HA5.out)).trans HA5.out)
      clear hb
      refine hK.out _ _ (by exact HK0.out.keep HD5.out HKl.out) (fun hHeld => ?_)
      clear hK K
      (try simp only [Act.put, List.setIfInBounds_toArray, List.set_cons_zero, List.set_cons_succ, List.getElem_toArray, List.getElem_cons_succ, List.getElem_cons_zero])
      have HBn := Lib.hid (HB0.out.trans (HD5.out.mono HB0.out.size))
      have HKn := Lib.hid (HK0.out.keep HD5.out HKl.out)
      have hlK : K1 < A7 := Nat.lt_of_lt_of_le HKl.out l7
      refine wpAnyH_ready (rs := [8]) (by kernel_rfl) (by simp) (AllReadyH.cons rfl (fun K hK => ?_) AllReadyH.nil)
      refine wp_store_mid 29 _ _ rfl A7 0 tA.toArray rfl rfl (thereL HA7.out (by rw [List.size_toArray, List.size_toArray, HtA.out]; simp [u8s_len])) (by rw [List.size_toArray, HtA.out]; exact info_d32) HtA1.out ?_
      have HS1 := Lib.hid (heap_setCells_all (vs := tA) HA7.out (by rw [HtA.out]; simp [u8s_len]))
      have HKs := Lib.hid (show (X5.setCells A7 0 tA).rangeAt K1 0 kL from HKn.out.grown (grown_cells A7 tA 0 X5) (by simp; omega))
      have HBs := Lib.hid (show Below w.heap.size w (X5.setCells A7 0 tA) from HBn.out.trans (Lib.below_setCells_w (by omega) tA 0 X5))
      obtain ⟨Z, hZ⟩ : ∃ Z, X5.setCells A7 0 tA = Z := ⟨_, rfl⟩
      rw [hZ] at HS1 HKs HBs
      rw [show X5.setCells A7 0 tA.toArray.toList = Z from hZ]
      clear hZ
      refine hK.out _ _ HKs.out (fun hHeld => ?_)
      clear hK K
      (try simp only [Act.put, List.setIfInBounds_toArray, List.set_cons_zero, List.set_cons_succ, List.getElem_toArray, List.getElem_cons_succ, List.getElem_cons_zero])
      refine wpAnyH_done (by kernel_rfl) ?_ _
      have hconv : (convert 71 9 (.slice (some ⟨A7, 0, none⟩) 32 32)).run Tryd.prog Z = .ok (.string ⟨t.toArray⟩) Z := bytes_conv Z A7 0 32 32 t htl (fun j hj => by
        have h0 := HS1.out
        rw [← HtAe.out] at h0
        rw [Nat.zero_add, u8s_cell h0 j hj]
        simp [List.getD_eq_getElem?_getD, List.getElem?_eq_getElem hj])
      go_wp2_with fail
      go_ret
      exact ⟨by rw [Hte.out]; rfl, HBs.out⟩
  · go_simp
    have HA7 := Lib.hid (show (X0.alloc (.cells #[.int .u8 0, .int .u8 0, .int .u8 0, .int .u8 0, .int .u8 0, .int .u8 0, .int .u8 0, .int .u8 0, .int .u8 0, .int .u8 0, .int .u8 0, .int .u8 0, .int .u8 0, .int .u8 0, .int .u8 0, .int .u8 0, .int .u8 0, .int .u8 0, .int .u8 0, .int .u8 0, .int .u8 0, .int .u8 0, .int .u8 0, .int .u8 0, .int .u8 0, .int .u8 0, .int .u8 0, .int .u8 0, .int .u8 0, .int .u8 0, .int .u8 0, .int .u8 0] 29)).heap[X0.heap.size]? = some (.cells (u8s (List.replicate 32 0)).toArray 29 (0, 0)) from heap_alloc_new X0 _)
    have hb := (Below.refl X0.heap.size X0).alloc (Nat.le_refl _) (.cells #[.int .u8 0, .int .u8 0, .int .u8 0, .int .u8 0, .int .u8 0, .int .u8 0, .int .u8 0, .int .u8 0, .int .u8 0, .int .u8 0, .int .u8 0, .int .u8 0, .int .u8 0, .int .u8 0, .int .u8 0, .int .u8 0, .int .u8 0, .int .u8 0, .int .u8 0, .int .u8 0, .int .u8 0, .int .u8 0, .int .u8 0, .int .u8 0, .int .u8 0, .int .u8 0, .int .u8 0, .int .u8 0, .int .u8 0, .int .u8 0, .int .u8 0, .int .u8 0] 29)
    obtain ⟨A7, hA7⟩ : ∃ z, X0.heap.size = z := ⟨_, rfl⟩
    rw [hA7] at HA7
    try rw [hA7]
    obtain ⟨X1, hX1⟩ : ∃ Z, X0.alloc (.cells #[.int .u8 0, .int .u8 0, .int .u8 0, .int .u8 0, .int .u8 0, .int .u8 0, .int .u8 0, .int .u8 0, .int .u8 0, .int .u8 0, .int .u8 0, .int .u8 0, .int .u8 0, .int .u8 0, .int .u8 0, .int .u8 0, .int .u8 0, .int .u8 0, .int .u8 0, .int .u8 0, .int .u8 0, .int .u8 0, .int .u8 0, .int .u8 0, .int .u8 0, .int .u8 0, .int .u8 0, .int .u8 0, .int .u8 0, .int .u8 0, .int .u8 0, .int .u8 0] 29) = Z := ⟨_, rfl⟩
    rw [hX1] at HA7 hb ⊢
    have el7 := Lib.hid hA7
    clear hA7 hX1
    have l7 : X0.heap.size ≤ A7 := by rw [← el7.out]; exact HD0.out.size
    clear el7
    have HD1 := Lib.hid (HD0.out.trans (hb.mono HD0.out.size))
    clear hb
    refine hK.out _ _ (by exact HK0.out.keep HD1.out HKl.out) (fun hHeld => ?_)
    clear hK K
    (try simp only [Act.put, List.setIfInBounds_toArray, List.set_cons_zero, List.set_cons_succ, List.getElem_toArray, List.getElem_cons_succ, List.getElem_cons_zero])
    refine wpAnyH_ready (rs := [3]) (by kernel_rfl) (by simp) (AllReadyH.cons rfl (fun K hK => ?_) AllReadyH.nil)
    go_simp
    have HA3 := Lib.hid (show (X1.alloc (.cells #[.string ⟨head.toArray⟩, .string ⟨ahead.toArray⟩] 9)).heap[X1.heap.size]? = some (.cells #[.string ⟨head.toArray⟩, .string ⟨ahead.toArray⟩] 9 (0, 0)) from heap_alloc_new X1 _)
    have hb := (Below.refl X1.heap.size X1).alloc (Nat.le_refl _) (.cells #[.string ⟨head.toArray⟩, .string ⟨ahead.toArray⟩] 9)
    obtain ⟨A3, hA3⟩ : ∃ z, X1.heap.size = z := ⟨_, rfl⟩
    rw [hA3] at HA3
    try rw [hA3]
    obtain ⟨X2, hX2⟩ : ∃ Z, X1.alloc (.cells #[.string ⟨head.toArray⟩, .string ⟨ahead.toArray⟩] 9) = Z := ⟨_, rfl⟩
    rw [hX2] at HA3 hb ⊢
    have el3 := Lib.hid hA3
    clear hA3 hX2
    clear el3
    have HD2 := Lib.hid (HD1.out.trans (hb.mono HD1.out.size))
    replace HA7 := Lib.hid ((hb.block _ (blk_lt HA7.out)).trans HA7.out)
    clear hb
    refine hK.out _ _ (by exact HK0.out.keep HD2.out HKl.out) (fun hHeld => ?_)
    clear hK K
    (try simp only [Act.put, List.setIfInBounds_toArray, List.set_cons_zero, List.set_cons_succ, List.getElem_toArray, List.getElem_cons_succ, List.getElem_cons_zero])
    refine wpAnyH_ready (rs := [4]) (by kernel_rfl) (by simp) (AllReadyH.cons rfl (fun K hK => ?_) AllReadyH.nil)
    go_simp
    have HC := Lib.hid (HCr.out A3 X2 HA3.out)
    with_reducible refine HC.out.mono ?_
    rintro _ X3 ⟨rfl, hb⟩
    clear HC
    have HD3 := Lib.hid (HD2.out.trans (hb.mono HD2.out.size))
    replace HA7 := Lib.hid ((hb.block _ (blk_lt HA7.out)).trans HA7.out)
    replace HA3 := Lib.hid ((hb.block _ (blk_lt HA3.out)).trans HA3.out)
    clear hb
    refine hK.out _ _ (by exact HK0.out.keep HD3.out HKl.out) (fun hHeld => ?_)
    clear hK K
    (try simp only [Act.put, List.setIfInBounds_toArray, List.set_cons_zero, List.set_cons_succ, List.getElem_toArray, List.getElem_cons_succ, List.getElem_cons_zero])
    refine wpAnyH_ready (rs := [5]) (by kernel_rfl) (by simp) (AllReadyH.cons rfl (fun K hK => ?_) AllReadyH.nil)
    go_simp
    have HA5 := Lib.hid (show (X3.alloc (.cells #[.string ⟨z.toArray⟩] 9)).heap[X3.heap.size]? = some (.cells #[.string ⟨z.toArray⟩] 9 (0, 0)) from heap_alloc_new X3 _)
    have hb := (Below.refl X3.heap.size X3).alloc (Nat.le_refl _) (.cells #[.string ⟨z.toArray⟩] 9)
    obtain ⟨A5, hA5⟩ : ∃ z, X3.heap.size = z := ⟨_, rfl⟩
    rw [hA5] at HA5
    try rw [hA5]
    obtain ⟨X4, hX4⟩ : ∃ Z, X3.alloc (.cells #[.string ⟨z.toArray⟩] 9) = Z := ⟨_, rfl⟩
    rw [hX4] at HA5 hb ⊢
    have el5 := Lib.hid hA5
    clear hA5 hX4
    clear el5
    have HD4 := Lib.hid (HD3.out.trans (hb.mono HD3.out.size))
    replace HA7 := Lib.hid ((hb.block _ (blk_lt HA7.out)).trans HA7.out)
    replace HA3 := Lib.hid ((hb.block _ (blk_lt HA3.out)).trans HA3.out)
    clear hb
    refine hK.out _ _ (by exact HK0.out.keep HD4.out HKl.out) (fun hHeld => ?_)
    clear hK K
    (try simp only [Act.put, List.setIfInBounds_toArray, List.set_cons_zero, List.set_cons_succ, List.getElem_toArray, List.getElem_cons_succ, List.getElem_cons_zero])
    refine wpAnyH_ready (rs := [6]) (by kernel_rfl) (by simp) (AllReadyH.cons rfl (fun K hK => ?_) AllReadyH.nil)
    go_simp
    have HC := Lib.hid (HCk.out A5 X4 HA5.out (HV0.out.below HD4.out))
    with_reducible refine HC.out.mono ?_
    rintro _ X5 ⟨rfl, hb⟩
    clear HC
    have HD5 := Lib.hid (HD4.out.trans (hb.mono HD4.out.size))
    replace HA7 := Lib.hid ((hb.block _ (blk_lt HA7.out)).trans HA7.out)
    replace HA3 := Lib.hid ((hb.block _ (blk_lt HA3.out)).trans HA3.out)
    replace HA5 := Lib.hid ((hb.block _ (blk_lt HA5.out)).trans HA5.out)
    clear hb
    refine hK.out _ _ (by exact HK0.out.keep HD5.out HKl.out) (fun hHeld => ?_)
    clear hK K
    (try simp only [Act.put, List.setIfInBounds_toArray, List.set_cons_zero, List.set_cons_succ, List.getElem_toArray, List.getElem_cons_succ, List.getElem_cons_zero])
    have HBn := Lib.hid (HB0.out.trans (HD5.out.mono HB0.out.size))
    have HKn := Lib.hid (HK0.out.keep HD5.out HKl.out)
    have hlK : K1 < A7 := Nat.lt_of_lt_of_le HKl.out l7
    refine wpAnyH_ready (rs := [8]) (by kernel_rfl) (by simp) (AllReadyH.cons rfl (fun K hK => ?_) AllReadyH.nil)
    refine wp_store_mid 29 _ _ rfl A7 0 tA.toArray rfl rfl (thereL HA7.out (by rw [List.size_toArray, List.size_toArray, HtA.out]; simp [u8s_len])) (by rw [List.size_toArray, HtA.out]; exact info_d32) HtA1.out ?_
    have HS1 := Lib.hid (heap_setCells_all (vs := tA) HA7.out (by rw [HtA.out]; simp [u8s_len]))
    have HKs := Lib.hid (show (X5.setCells A7 0 tA).rangeAt K1 0 kL from HKn.out.grown (grown_cells A7 tA 0 X5) (by simp; omega))
    have HBs := Lib.hid (show Below w.heap.size w (X5.setCells A7 0 tA) from HBn.out.trans (Lib.below_setCells_w (by omega) tA 0 X5))
    obtain ⟨Z, hZ⟩ : ∃ Z, X5.setCells A7 0 tA = Z := ⟨_, rfl⟩
    rw [hZ] at HS1 HKs HBs
    rw [show X5.setCells A7 0 tA.toArray.toList = Z from hZ]
    clear hZ
    refine hK.out _ _ HKs.out (fun hHeld => ?_)
    clear hK K
    (try simp only [Act.put, List.setIfInBounds_toArray, List.set_cons_zero, List.set_cons_succ, List.getElem_toArray, List.getElem_cons_succ, List.getElem_cons_zero])
    refine wpAnyH_done (by kernel_rfl) ?_ _
    have hconv : (convert 71 9 (.slice (some ⟨A7, 0, none⟩) 32 32)).run Tryd.prog Z = .ok (.string ⟨t.toArray⟩) Z := bytes_conv Z A7 0 32 32 t htl (fun j hj => by
      have h0 := HS1.out
      rw [← HtAe.out] at h0
      rw [Nat.zero_add, u8s_cell h0 j hj]
      simp [List.getD_eq_getElem?_getD, List.getElem?_eq_getElem hj])
    go_wp2_with fail
    go_ret
    exact ⟨by rw [Hte.out]; rfl, HBs.out⟩
end Go.Proofs.YtadoplgmeoghmaaDoor
namespace Go.Proofs.YtadoplgmeoghmaaDoor
open Go.RowKit
set_option linter.unusedVariables false
set_option linter.unusedSimpArgs false
/-- The first twelve bytes, zeros behind a short text. -/
def nonceOf (s : List UInt8) : List UInt8 := s.take 12 ++ List.replicate (12 - s.length) 0
theorem nonceOf_len (s : List UInt8) : (nonceOf s).length = 12 := by simp [nonceOf]; omega
theorem nonceOf_long {s : List UInt8} (h : 12 ≤ s.length) : nonceOf s = s.take 12 := by simp [nonceOf, Nat.sub_eq_zero_of_le h]
theorem list_copy_min {P : Program} {ops : Array Oper} {rest : List Oper} {o : Oper} {a : Act} {w : World} {Q : Exit → Act → World → Prop}
    (hg : o.guard = none) (d x : Operand) (dT sT : TypeId) (hop : o.op = Op.call { callee := Callee.builtin Builtin.copy, args := #[d, x], argTypes := #[dT, sT] })
    (elem : TypeId) (hu : P.underlying dT = some (.slice elem)) (hz : ∀ w, (Go.sizeOf elem).run P w = .ok 1 w)
    (b off dLen dCap : Nat) (hd : a.eval d = .slice (some ⟨b, off, none⟩) dLen dCap) (t : List UInt8) (hx : a.eval x = .string ⟨t.toArray⟩)
    (hc : ∀ j, j < (t.take dLen).length → (w.cell? ⟨b, off + j, none⟩).isSome = true) (hf : ∀ j, j < (t.take dLen).length → w.frozen? ⟨b, off + j, none⟩ = false)
    (h : wpList P ops Q rest (a.put o.dst (goInt (t.take dLen).length)) (w.setCells b off (u8s (t.take dLen)))) : wpList P ops Q (o :: rest) a w := by
  refine wpList_plain hg fun K hK => ?_
  have hrun := run_copy_min (P := P) w dT sT o.type elem b off dLen dCap t hu hz hc hf
  obtain ⟨N, hN⟩ : ∃ N, (t.take dLen).length = N := ⟨_, rfl⟩
  rw [hN] at hrun h
  unfold Oper.wp
  simp [execOp, hop, resolve, invoke, builtin, hd, hx, hrun, Result.andThen]
  exact hK _ _ h
set_option maxRecDepth 1000000 in
theorem size_b (w : World) : (Go.sizeOf 5).run Tryd.prog w = .ok 1 w := by
  simp [Go.sizeOf, typeInfo, Sem.run_bind, Sem.run_pure]; rfl
set_option maxRecDepth 1000000 in
set_option maxHeartbeats 4000000 in
theorem Nonce_any (s : List UInt8) (w : World) :
    Calls Tryd.prog 48 #[.string ⟨s.toArray⟩] w (fun e w' => e = .returned (.agg (u8s (nonceOf s)).toArray) ∧ Below w.heap.size w w') := by
  go_enter Tryd.func48, Tryd.ntmps48
  go_upto_region 2 with (fail)
  generalize hX : (w.alloc _).alloc _ = X
  have HB := Lib.hid (show Below w.heap.size w X by rw [← hX]; exact ((Below.refl _ _).alloc (Nat.le_refl _) _).alloc (by simp) _)
  have HR := Lib.hid (show X.heap[w.heap.size]? = some (.cells (u8s (List.replicate 12 0)).toArray 53 (0, 0)) by rw [← hX]; exact (Below.heap_alloc _ _ _ (by simp)).trans (heap_alloc_new w _))
  have HD := Lib.hid (show X.heap[w.heap.size + 1]? = some (.cells (u8s (List.replicate 12 0)).toArray 53 (0, 0)) by rw [← hX]; exact heap_alloc_2 w _ _)
  clear hX
  obtain ⟨R, hR⟩ : ∃ R, w.heap.size = R := ⟨_, rfl⟩
  obtain ⟨D, hD⟩ : ∃ D, R + 1 = D := ⟨_, rfl⟩
  rw [hR] at HR HD ⊢
  rw [hD] at HD ⊢
  have k0 : w.heap.size ≤ R := Nat.le_of_eq hR
  have k1 : R < D := by omega
  have HRe := Lib.hid hR
  clear hR hD
  have htl : (s.take 12).length ≤ 12 := by rw [List.length_take]; omega
  have HX1 := Lib.hid (show (X.setCells D 0 (u8s (s.take 12))).heap[D]? = some (.cells (u8s (nonceOf s)).toArray 53 (0, 0)) by
    rw [heap_setCells_mid _ _ _ _ HD.out (by simp only [u8s_len, List.length_replicate]; omega), u8s_len]
    congr 3
    simp only [nonceOf, u8s, List.map_append, List.take_zero, List.nil_append, Nat.zero_add, List.map_replicate, List.drop_replicate]
    congr 2
    rw [List.length_take]; omega)
  have HX2 := Lib.hid (((grown_cells D (u8s (s.take 12)) 0 X).block _ (blk_lt HR.out) (by simp; omega)).trans HR.out)
  have HX3 := Lib.hid (show Below w.heap.size w (X.setCells D 0 (u8s (s.take 12))) from HB.out.trans (Lib.below_setCells_w (by omega) _ 0 X))
  have HT := Lib.hid (show ∀ j, j < (s.take 12).length → (X.cell? ⟨D, 0 + j, none⟩).isSome = true from fun j hj => by rw [Nat.zero_add, u8s_cell HD.out j (by simp only [List.length_replicate]; omega)]; rfl)
  have HF := Lib.hid (show ∀ j, j < (s.take 12).length → X.frozen? ⟨D, 0 + j, none⟩ = false from fun j hj => frozen_of X D _ _ _ HD.out)
  go_upto_region 3 with (with_reducible refine list_copy_min rfl (.tmp 4) (.tmp 5) _ _ rfl 5 Tryd.underlying71 size_b D 0 12 12 rfl s rfl HT.out HF.out ?_)
  obtain ⟨Y, hY⟩ : ∃ Y, X.setCells D 0 (u8s (s.take 12)) = Y := ⟨_, rfl⟩
  rw [hY] at HX1 HX2 HX3 ⊢
  obtain ⟨L, hL⟩ : ∃ L, u8s (nonceOf s) = L := ⟨_, rfl⟩
  rw [hL] at HX1
  have HL := Lib.hid hL
  have HLl := Lib.hid (show L.length = 12 by rw [← hL, u8s_len, nonceOf_len])
  have HL1 := Lib.hid (show L.toArray.all (·.oneCell') = true by rw [← hL]; exact all_oneCell_toArray (u8s_one _))
  have HTH := Lib.hid (thereL (n := L.toArray.size) HX2.out (by rw [List.size_toArray, HLl.out]; simp [u8s_len]))
  clear hY hL HB HR HD HT HF
  simp only [Act.put]
  go_wp2_with (first
    | (with_reducible refine wpList_load_mid rfl 53 _ rfl D 0 rfl L _ (rangeL HX1.out) Tryd.underlying53 rfl (by rw [HLl.out]; exact info_n12) ?_)
    | (with_reducible refine wpList_store_mid rfl 53 _ _ rfl R 0 L.toArray rfl rfl HTH.out (by rw [List.size_toArray, HLl.out]; exact info_n12) HL1.out ?_))
  have hfin := heap_setCells_all HX2.out (vs := L) (by rw [HLl.out]; simp [u8s_len])
  refine bodyPost_ret (v := .agg L.toArray) (results_one rfl rfl (rangeL hfin) Tryd.underlying53 rfl (by rw [HLl.out]; exact info_n12)) rfl ?_
  rw [HL.out]
  exact ⟨rfl, HX3.out.trans (Lib.below_setCells_w (by omega) _ _ _)⟩
theorem xor_1 (k nonce : List UInt8) (d : List UInt8) (hk : k.length = 32) (hn : nonce.length = 12) (hd : d.length < 4611686018427387904) (w : World) :
    Calls Tryd.prog 43 #[.agg (u8s k).toArray, .agg (u8s nonce).toArray, .int .u32 1, .string ⟨d.toArray⟩] w (fun e w' => e = .returned (.string ⟨(Pl.xorC k nonce 1 d).toArray⟩) ∧ Below w.heap.size w w') := xor_any k nonce 1 d hk hn (by decide) hd w
/-- What Seal reads in its second half. -/
structure SealS (W : World) (T N : Nat) (tL nL : List Value) (nonce : List UInt8) (cv : Value) : Prop where
  t : W.rangeAt T 0 tL
  n : W.rangeAt N 0 nL
  c : (convert 71 9 cv).run Tryd.prog W = .ok (.string ⟨nonce.toArray⟩) W
theorem conv_at {W : World} {N : Nat} {nonce : List UInt8} {n c : Nat} (h : W.rangeAt N 0 (u8s nonce)) (hn : nonce.length = n) : (convert 71 9 (.slice (some ⟨N, 0, none⟩) n c)).run Tryd.prog W = .ok (.string ⟨nonce.toArray⟩) W :=
  bytes_conv W N 0 n c nonce hn (fun j hj => by
    rw [h j _ (u8s_get nonce j hj)]
    simp [List.getD_eq_getElem?_getD, List.getElem?_eq_getElem hj])
set_option maxRecDepth 1000000 in
set_option maxHeartbeats 8000000 in
theorem Seal_any (k nonce head data : List UInt8) (hk : k.length = 32) (hn : nonce.length = 12) (hh : head.length ≤ 4398046511104) (hd : data.length ≤ 1099511627776) (w : World) (hv : VHash w) :
    Calls Tryd.prog 17 #[.agg (u8s k).toArray, .agg (u8s nonce).toArray, .string ⟨head.toArray⟩, .string ⟨data.toArray⟩] w (fun e w' => e = .returned (.string ⟨(Pl.sealS k nonce head data).toArray⟩) ∧ Below w.heap.size w w') := by
  go_enter Tryd.func17, Tryd.ntmps17
  go_upto_region 1 with (fail)
  generalize hX : (w.alloc _).alloc _ = X
  have HB := Lib.hid (show Below w.heap.size w X by rw [← hX]; exact ((Below.refl _ _).alloc (Nat.le_refl _) _).alloc (by simp) _)
  have HK := Lib.hid (show X.heap[w.heap.size]? = some (.cells (u8s k).toArray 24 (0, 0)) by rw [← hX]; exact (Below.heap_alloc _ _ _ (by simp)).trans (heap_alloc_new w _))
  have HN := Lib.hid (show X.heap[w.heap.size + 1]? = some (.cells (u8s nonce).toArray 53 (0, 0)) by rw [← hX]; exact heap_alloc_2 w _ _)
  have HV := Lib.hid (hv.below HB.out)
  clear hX hv
  obtain ⟨K1, hKe⟩ : ∃ K, w.heap.size = K := ⟨_, rfl⟩
  obtain ⟨N, hNe⟩ : ∃ N, K1 + 1 = N := ⟨_, rfl⟩
  rw [hKe] at HK HN ⊢
  rw [hNe] at HN ⊢
  have k0 : w.heap.size ≤ K1 := Nat.le_of_eq hKe
  have k1 : K1 < N := by omega
  have HKe := Lib.hid hKe
  clear hKe hNe
  obtain ⟨kL, hkL⟩ : ∃ L, u8s k = L := ⟨_, rfl⟩
  obtain ⟨nL, hnL⟩ : ∃ L, u8s nonce = L := ⟨_, rfl⟩
  have HkL := Lib.hid (show kL.length = 32 by rw [← hkL, u8s_len, hk])
  have HnL := Lib.hid (show nL.length = 12 by rw [← hnL, u8s_len, hn])
  have HC := Lib.hid (keys_any k hk X HV.out)
  obtain ⟨kt, hkt⟩ : ∃ z, Pl.turnK k = z := ⟨_, rfl⟩
  obtain ⟨km, hkm⟩ : ∃ z, Pl.markK k = z := ⟨_, rfl⟩
  have hktl : kt.length = 32 := by rw [← hkt]; exact Pl.keyedB_len _ _
  have hkml : km.length = 32 := by rw [← hkm]; exact Pl.keyedB_len _ _
  obtain ⟨tL, htL⟩ : ∃ L, u8s kt = L := ⟨_, rfl⟩
  obtain ⟨mL, hmL⟩ : ∃ L, u8s km = L := ⟨_, rfl⟩
  have HtL := Lib.hid (show tL.length = 32 by rw [← htL, u8s_len, hktl])
  have HmL := Lib.hid (show mL.length = 32 by rw [← hmL, u8s_len, hkml])
  have HtL1 := Lib.hid (show tL.toArray.all (·.oneCell') = true by rw [← htL]; exact all_oneCell_toArray (u8s_one _))
  have HmL1 := Lib.hid (show mL.toArray.all (·.oneCell') = true by rw [← hmL]; exact all_oneCell_toArray (u8s_one _))
  rw [hkL, hkt, hkm, htL, hmL] at HC
  have HnE := Lib.hid hnL
  rw [hkL] at HK ⊢
  rw [hnL] at HN ⊢
  have HtE := Lib.hid htL
  have HmE := Lib.hid hmL
  obtain ⟨cx, hcx⟩ : ∃ z, Pl.xorC kt nonce 1 data = z := ⟨_, rfl⟩
  have hcxl : cx.length = data.length := by rw [← hcx]; exact Pl.xorC_len _ _ _ _
  have HXc := Lib.hid (fun W => xor_1 kt nonce data hktl hn (by omega) W)
  rw [htL, hnL, hcx] at HXc
  obtain ⟨ah, hah⟩ : ∃ z, nonce ++ cx = z := ⟨_, rfl⟩
  have hahl : ah.length ≤ 4398046511104 := by rw [← hah, List.length_append]; omega
  obtain ⟨tg, htg⟩ : ∃ z, Pl.tagS km head ah = z := ⟨_, rfl⟩
  have htgl : tg.length = 32 := by rw [← htg]; exact Pl.tagS_len _ _ _
  have HTc := Lib.hid (fun W hv => tag_any km head ah hkml hh hahl W hv)
  rw [hmL, htg] at HTc
  have HR := Lib.hid (show Pl.sealS k nonce head data = ah ++ tg by unfold Pl.sealS Pl.aheadS; rw [hkt, hkm, hcx, hah, htg])
  have HAh := Lib.hid hah
  clear hkL hnL htL hmL hkt hkm hcx hah htg
  go_wp2_with (with_reducible refine wpList_load_mid rfl 24 _ rfl K1 0 rfl kL _ (rangeL HK.out) Tryd.underlying24 rfl (by rw [HkL.out]; exact info_k) ?_)
  with_reducible refine HC.out.mono ?_
  rintro _ W1 ⟨rfl, hb1⟩
  have HB1 := Lib.hid (HB.out.trans (hb1.mono HB.out.size))
  have HN1 := Lib.hid ((hb1.block _ (blk_lt HN.out)).trans HN.out)
  have HV1 := Lib.hid (HV.out.below hb1)
  clear hb1 HB HK HN HV HC
  have HZ1 := Lib.hid (show ((W1.alloc (.cells #[.int .u8 0, .int .u8 0, .int .u8 0, .int .u8 0, .int .u8 0, .int .u8 0, .int .u8 0, .int .u8 0, .int .u8 0, .int .u8 0, .int .u8 0, .int .u8 0, .int .u8 0, .int .u8 0, .int .u8 0, .int .u8 0, .int .u8 0, .int .u8 0, .int .u8 0, .int .u8 0, .int .u8 0, .int .u8 0, .int .u8 0, .int .u8 0, .int .u8 0, .int .u8 0, .int .u8 0, .int .u8 0, .int .u8 0, .int .u8 0, .int .u8 0, .int .u8 0] 24)).alloc (.cells #[.int .u8 0, .int .u8 0, .int .u8 0, .int .u8 0, .int .u8 0, .int .u8 0, .int .u8 0, .int .u8 0, .int .u8 0, .int .u8 0, .int .u8 0, .int .u8 0, .int .u8 0, .int .u8 0, .int .u8 0, .int .u8 0, .int .u8 0, .int .u8 0, .int .u8 0, .int .u8 0, .int .u8 0, .int .u8 0, .int .u8 0, .int .u8 0, .int .u8 0, .int .u8 0, .int .u8 0, .int .u8 0, .int .u8 0, .int .u8 0, .int .u8 0, .int .u8 0] 24)).heap[W1.heap.size]? = some (.cells (u8s (List.replicate 32 0)).toArray 24 (0, 0)) from (Below.heap_alloc _ _ _ (by simp)).trans (heap_alloc_new W1 _))
  have HTH1 := Lib.hid (thereL (n := tL.toArray.size) HZ1.out (by rw [List.size_toArray, HtL.out]; simp [u8s_len]))
  have HZ2 := Lib.hid (show (((W1.alloc (.cells #[.int .u8 0, .int .u8 0, .int .u8 0, .int .u8 0, .int .u8 0, .int .u8 0, .int .u8 0, .int .u8 0, .int .u8 0, .int .u8 0, .int .u8 0, .int .u8 0, .int .u8 0, .int .u8 0, .int .u8 0, .int .u8 0, .int .u8 0, .int .u8 0, .int .u8 0, .int .u8 0, .int .u8 0, .int .u8 0, .int .u8 0, .int .u8 0, .int .u8 0, .int .u8 0, .int .u8 0, .int .u8 0, .int .u8 0, .int .u8 0, .int .u8 0, .int .u8 0] 24)).alloc (.cells #[.int .u8 0, .int .u8 0, .int .u8 0, .int .u8 0, .int .u8 0, .int .u8 0, .int .u8 0, .int .u8 0, .int .u8 0, .int .u8 0, .int .u8 0, .int .u8 0, .int .u8 0, .int .u8 0, .int .u8 0, .int .u8 0, .int .u8 0, .int .u8 0, .int .u8 0, .int .u8 0, .int .u8 0, .int .u8 0, .int .u8 0, .int .u8 0, .int .u8 0, .int .u8 0, .int .u8 0, .int .u8 0, .int .u8 0, .int .u8 0, .int .u8 0, .int .u8 0] 24)).setCells W1.heap.size 0 tL).heap[W1.heap.size + 1]? = some (.cells (u8s (List.replicate 32 0)).toArray 24 (0, 0)) from ((grown_cells W1.heap.size tL 0 _).block _ (by simp) (by simp)).trans (heap_alloc_2 W1 _ _))
  have HTH2 := Lib.hid (thereL (n := mL.toArray.size) HZ2.out (by rw [List.size_toArray, HmL.out]; simp [u8s_len]))
  go_upto_region 2 with (first
    | (with_reducible refine wpList_store_mid rfl 24 _ _ rfl W1.heap.size 0 tL.toArray rfl rfl HTH1.out (by rw [List.size_toArray, HtL.out]; exact info_k) HtL1.out ?_)
    | (with_reducible refine wpList_store_mid rfl 24 _ _ rfl (W1.heap.size + 1) 0 mL.toArray rfl rfl HTH2.out (by rw [List.size_toArray, HmL.out]; exact info_k) HmL1.out ?_))
  generalize hY : (((W1.alloc _).alloc _).setCells _ _ _).setCells _ _ _ = Y
  have HT := Lib.hid (show Y.heap[W1.heap.size]? = some (.cells tL.toArray 24 (0, 0)) by rw [← hY]; exact ((grown_cells (W1.heap.size + 1) mL 0 _).block _ (blk_lt (heap_setCells_all (vs := tL) HZ1.out (by rw [HtL.out]; simp [u8s_len]))) (by simp)).trans (heap_setCells_all (vs := tL) HZ1.out (by rw [HtL.out]; simp [u8s_len])))
  have HM := Lib.hid (show Y.heap[W1.heap.size + 1]? = some (.cells mL.toArray 24 (0, 0)) by rw [← hY]; exact heap_setCells_all (vs := mL) HZ2.out (by rw [HmL.out]; simp [u8s_len]))
  have hby : Below W1.heap.size W1 Y := by rw [← hY]; exact ((((Below.refl _ _).alloc (Nat.le_refl _) _).alloc (by simp) _).trans (Lib.below_setCells_w (Nat.le_refl _) _ _ _)).trans (Lib.below_setCells_w (by omega) _ _ _)
  have HBy := Lib.hid (HB1.out.trans (hby.mono HB1.out.size))
  have HNy := Lib.hid ((hby.block _ (blk_lt HN1.out)).trans HN1.out)
  have HVy := Lib.hid (HV1.out.below hby)
  obtain ⟨T, hT⟩ : ∃ T, W1.heap.size = T := ⟨_, rfl⟩
  obtain ⟨M, hM⟩ : ∃ M, T + 1 = M := ⟨_, rfl⟩
  rw [hT] at HT HM ⊢
  rw [hM] at HM ⊢
  clear hY hby hT hM HZ1 HZ2 HTH1 HTH2 HB1 HN1 HV1
  simp only [Act.put]
  have HTl := Lib.hid (blk_lt HT.out)
  have HNl := Lib.hid (blk_lt HNy.out)
  have hSl : SealS Y.drew T N tL nL nonce (.slice (some ⟨N, 0, none⟩) 12 12) := ⟨rangeL HT.out, rangeL HNy.out, conv_at (by rw [HnE.out]; exact rangeL HNy.out) hn⟩
  have kb : ¬ 9223372036854775807 < nonce.length + cx.length := by omega
  have kb2 : ¬ 9223372036854775807 < 12 + data.length := by omega
  have ev : (⟨nonce.toArray⟩ : ByteArray) ++ ⟨cx.toArray⟩ = ⟨ah.toArray⟩ := by rw [ba_add, HAh.out]
  go_wp2_with fail
  refine wp_region_held_drew (S := (fun w' => SealS w' T N tL nL nonce (.slice (some ⟨N, 0, none⟩) 12 12))) (by kernel_rfl) (by exact hSl) (fun hHeld => ?_)
  refine wpAnyH_take (i := 0) (v := ?_) rfl (by kernel_rfl) (by kernel_rfl) (by kernel_rfl) (fun _ _ _ h => h) (Or.inl ⟨by kernel_rfl, ?_⟩) hHeld ?_
  rotate_left
  · (intro w' hSw; obtain ⟨hS0, hS1, hS2⟩ := hSw; go_simp; try with_reducible rfl)
  simp only [Act.put, List.setIfInBounds_toArray, List.set_cons_zero, List.set_cons_succ, List.getElem_toArray, List.getElem_cons_succ, List.getElem_cons_zero]
  refine wpAnyH_take (i := 1) (v := ?_) rfl (by kernel_rfl) (by kernel_rfl) (by kernel_rfl) (fun _ _ _ h => h) (Or.inl ⟨by kernel_rfl, ?_⟩) hHeld ?_
  rotate_left
  · (intro w' hSw; obtain ⟨hS0, hS1, hS2⟩ := hSw; go_simp; try with_reducible rfl)
  simp only [Act.put, List.setIfInBounds_toArray, List.set_cons_zero, List.set_cons_succ, List.getElem_toArray, List.getElem_cons_succ, List.getElem_cons_zero]
  refine wpAnyH_take (i := 4) (v := ?_) rfl (by kernel_rfl) (by kernel_rfl) (by kernel_rfl) (fun _ _ _ h => h) (Or.inl ⟨by kernel_rfl, ?_⟩) hHeld ?_
  rotate_left
  · (intro w' hSw; obtain ⟨hS0, hS1, hS2⟩ := hSw; go_simp; try with_reducible rfl)
  simp only [Act.put, List.setIfInBounds_toArray, List.set_cons_zero, List.set_cons_succ, List.getElem_toArray, List.getElem_cons_succ, List.getElem_cons_zero]
  refine wpAnyH_take (i := 2) (v := .agg (tL).toArray) rfl (by kernel_rfl) (by kernel_rfl) (by kernel_rfl) (fun _ _ _ h => h) (yieldsIf_load_mid (by kernel_rfl) 24 _ rfl (T) (0) rfl tL _ (fun _ h => h.t) Tryd.underlying24 rfl (by rw [HtL.out]; exact info_k)) hHeld ?_
  simp only [Act.put, List.setIfInBounds_toArray, List.set_cons_zero, List.set_cons_succ, List.getElem_toArray, List.getElem_cons_succ, List.getElem_cons_zero]
  refine wpAnyH_take (i := 3) (v := .agg (nL).toArray) rfl (by kernel_rfl) (by kernel_rfl) (by kernel_rfl) (fun _ _ _ h => h) (yieldsIf_load_mid (by kernel_rfl) 53 _ rfl (N) (0) rfl nL _ (fun _ h => h.n) Tryd.underlying53 rfl (by rw [HnL.out]; exact info_n12)) hHeld ?_
  simp only [Act.put, List.setIfInBounds_toArray, List.set_cons_zero, List.set_cons_succ, List.getElem_toArray, List.getElem_cons_succ, List.getElem_cons_zero]
  refine wpAnyH_ready (rs := [5]) (by kernel_rfl) (by simp) (AllReadyH.cons rfl (fun K hK => ?_) AllReadyH.nil)
  go_simp
  have HC := Lib.hid (HXc.out Y.drew)
  with_reducible refine HC.out.mono ?_
  rintro _ Z ⟨rfl, hz⟩
  have hSz : SealS Z T N tL nL nonce (.slice (some ⟨N, 0, none⟩) 12 12) := ⟨hSl.t.keep hz HTl.out, hSl.n.keep hz HNl.out, conv_at (by rw [HnE.out]; exact hSl.n.keep hz HNl.out) hn⟩
  refine hK.out _ _ hSz (fun hHeld => ?_)
  clear hK K
  (try simp only [Act.put, List.setIfInBounds_toArray, List.set_cons_zero, List.set_cons_succ, List.getElem_toArray, List.getElem_cons_succ, List.getElem_cons_zero])
  refine wpAnyH_take (i := 6) (v := ?_) rfl (by kernel_rfl) (by kernel_rfl) (by kernel_rfl) (fun _ _ _ h => h) (Or.inl ⟨by kernel_rfl, ?_⟩) hHeld ?_
  rotate_left
  · (intro w' hSw; (try dsimp only at hSw); go_simp; try with_reducible rfl)
  simp only [Act.put, List.setIfInBounds_toArray, List.set_cons_zero, List.set_cons_succ, List.getElem_toArray, List.getElem_cons_succ, List.getElem_cons_zero]
  refine wpAnyH_take (i := 7) (v := ?_) rfl (by kernel_rfl) (by kernel_rfl) (by kernel_rfl) (fun _ _ _ h => h) (Or.inl ⟨by kernel_rfl, ?_⟩) hHeld ?_
  rotate_left
  · (intro w' hSw; (try dsimp only at hSw); go_simp; try with_reducible rfl)
  simp only [Act.put, List.setIfInBounds_toArray, List.set_cons_zero, List.set_cons_succ, List.getElem_toArray, List.getElem_cons_succ, List.getElem_cons_zero]
  refine wpAnyH_done (by kernel_rfl) ?_ _
  replace hz : Below Y.heap.size Y Z := ⟨hz.os, hz.tape, hz.output, hz.size, hz.block⟩
  have HMz := Lib.hid ((hz.block _ (blk_lt HM.out)).trans HM.out)
  have HVz := Lib.hid (HVy.out.below hz)
  have HBz := Lib.hid (HBy.out.trans (hz.mono HBy.out.size))
  have HC2 := Lib.hid (HTc.out Z HVz.out)
  clear hSz hSl hHeld hz HC HM HT HBy HNy HVy kb ev
  go_wp2_with (with_reducible refine wpList_load_mid rfl 24 _ rfl M 0 rfl mL _ (rangeL HMz.out) Tryd.underlying24 rfl (by rw [HmL.out]; exact info_k) ?_)
  with_reducible refine HC2.out.mono ?_
  rintro _ Z2 ⟨rfl, hz2⟩
  have kb : ¬ 9223372036854775807 < ah.length + tg.length := by omega
  have kb2 : ¬ 9223372036854775807 < ah.length + 32 := by omega
  have ev : (⟨ah.toArray⟩ : ByteArray) ++ ⟨tg.toArray⟩ = ⟨(ah ++ tg).toArray⟩ := ba_add _ _
  have HBe := Lib.hid (HBz.out.trans (hz2.mono HBz.out.size))
  clear hz2 HC2
  go_wp2_with fail
  go_ret
  exact ⟨by rw [HR.out]; rfl, HBe.out⟩
end Go.Proofs.YtadoplgmeoghmaaDoor
namespace Go.Proofs.YtadoplgmeoghmaaDoor
open Go.RowKit
set_option linter.unusedVariables false
set_option linter.unusedSimpArgs false
/-- What Open tells. -/
def openV (k head box : List UInt8) : Value :=
  if box.length < 44 then .tuple #[.string ⟨#[]⟩, .int .i64 4]
  else match Pl.openS k head box with
    | some d => .tuple #[.string ⟨d.toArray⟩, .int .i64 0]
    | none => .tuple #[.string ⟨#[]⟩, .int .i64 5]
set_option maxRecDepth 1000000 in
set_option maxHeartbeats 8000000 in
theorem Open_any (k head box : List UInt8) (hk : k.length = 32) (hh : head.length ≤ 4398046511104) (hd : box.length ≤ 1099511627776) (w : World) (hv : VHash w) :
    Calls Tryd.prog 26 #[.agg (u8s k).toArray, .string ⟨head.toArray⟩, .string ⟨box.toArray⟩] w (fun e w' => e = .returned (openV k head box) ∧ Below w.heap.size w w') := by
  by_cases h44 : box.length < 44
  · have hV : openV k head box = .tuple #[.string ⟨#[]⟩, .int .i64 4] := by unfold openV; rw [if_pos h44]
    rw [hV]
    clear hV
    have f1 : (box.length : Int) < 44 := by omega
    go_enter Tryd.func26, Tryd.ntmps26
    go_wp2_with fail
    go_ret2
    exact ⟨rfl, (Below.refl _ _).alloc (Nat.le_refl _) _⟩
  · have f1 : ¬ (box.length : Int) < 44 := by omega
    obtain ⟨n, hn⟩ : ∃ n, box.length - 32 = n := ⟨_, rfl⟩
    have e32 : IntKind.i64.wrap ((box.length : Int) - 32) = (n : Int) := (IntWalk.i64_in _ (by omega)).trans (by omega)
    have n12 : 12 ≤ n := by omega
    have nle : n ≤ box.length := by omega
    obtain ⟨ah, hah⟩ : ∃ z, box.take n = z := ⟨_, rfl⟩
    obtain ⟨bt, hbt⟩ : ∃ z, box.drop n = z := ⟨_, rfl⟩
    have hahl : ah.length = n := by rw [← hah, List.length_take]; omega
    go_enter Tryd.func26, Tryd.ntmps26
    go_upto_region 3 with (fail)
    generalize hX : w.alloc _ = X
    have HB := Lib.hid (show Below w.heap.size w X by rw [← hX]; exact (Below.refl _ _).alloc (Nat.le_refl _) _)
    have HK := Lib.hid (show X.heap[w.heap.size]? = some (.cells (u8s k).toArray 24 (0, 0)) by rw [← hX]; exact heap_alloc_new w _)
    have HV := Lib.hid (hv.below HB.out)
    clear hX hv
    obtain ⟨K1, hKe⟩ : ∃ K, w.heap.size = K := ⟨_, rfl⟩
    rw [hKe] at HK ⊢
    have k0 : w.heap.size ≤ K1 := Nat.le_of_eq hKe
    have HKe := Lib.hid hKe
    clear hKe
    obtain ⟨kL, hkL⟩ : ∃ L, u8s k = L := ⟨_, rfl⟩
    have HkL := Lib.hid (show kL.length = 32 by rw [← hkL, u8s_len, hk])
    have HC := Lib.hid (keys_any k hk X HV.out)
    obtain ⟨kt, hkt⟩ : ∃ z, Pl.turnK k = z := ⟨_, rfl⟩
    obtain ⟨km, hkm⟩ : ∃ z, Pl.markK k = z := ⟨_, rfl⟩
    have hktl : kt.length = 32 := by rw [← hkt]; exact Pl.keyedB_len _ _
    have hkml : km.length = 32 := by rw [← hkm]; exact Pl.keyedB_len _ _
    obtain ⟨tL, htL⟩ : ∃ L, u8s kt = L := ⟨_, rfl⟩
    obtain ⟨mL, hmL⟩ : ∃ L, u8s km = L := ⟨_, rfl⟩
    have HtL := Lib.hid (show tL.length = 32 by rw [← htL, u8s_len, hktl])
    have HmL := Lib.hid (show mL.length = 32 by rw [← hmL, u8s_len, hkml])
    have HtL1 := Lib.hid (show tL.toArray.all (·.oneCell') = true by rw [← htL]; exact all_oneCell_toArray (u8s_one _))
    have HmL1 := Lib.hid (show mL.toArray.all (·.oneCell') = true by rw [← hmL]; exact all_oneCell_toArray (u8s_one _))
    rw [hkL, hkt, hkm, htL, hmL] at HC
    rw [hkL] at HK ⊢
    obtain ⟨no, hno⟩ : ∃ z, ah.take 12 = z := ⟨_, rfl⟩
    have hnol : no.length = 12 := by rw [← hno, List.length_take]; omega
    obtain ⟨nL, hnL⟩ : ∃ L, u8s no = L := ⟨_, rfl⟩
    have HNc := Lib.hid (fun W => Nonce_any ah W)
    rw [nonceOf_long (by omega), hno, hnL] at HNc
    obtain ⟨da, hda⟩ : ∃ z, ah.drop 12 = z := ⟨_, rfl⟩
    have hdal : da.length ≤ 1099511627776 := by rw [← hda, List.length_drop]; omega
    obtain ⟨cx, hcx⟩ : ∃ z, Pl.xorC kt no 1 da = z := ⟨_, rfl⟩
    have HXc := Lib.hid (fun W => xor_1 kt no da hktl hnol (by omega) W)
    rw [htL, hnL, hcx] at HXc
    obtain ⟨tg, htg⟩ : ∃ z, Pl.tagS km head ah = z := ⟨_, rfl⟩
    have HTc := Lib.hid (fun W hv => tag_any km head ah hkml hh (by omega) W hv)
    rw [hmL, htg] at HTc
    have HR := Lib.hid (show openV k head box = if tg = bt then .tuple #[.string ⟨cx.toArray⟩, .int .i64 0] else .tuple #[.string ⟨#[]⟩, .int .i64 5] by
      unfold openV Pl.openS
      rw [if_neg h44, if_neg h44, hn, hah, hbt, hkm, htg, hkt, hno, hda, hcx]
      by_cases e : tg = bt
      · rw [if_pos e, if_pos e]
      · rw [if_neg e, if_neg e])
    have Hah := Lib.hid hah
    have Hbt := Lib.hid hbt
    have Hda := Lib.hid hda
    clear hkL hnL htL hmL hkt hkm hcx hah htg hbt hno hda hn
    go_wp2_with (with_reducible refine wpList_load_mid rfl 24 _ rfl K1 0 rfl kL _ (rangeL HK.out) Tryd.underlying24 rfl (by rw [HkL.out]; exact info_k) ?_)
    with_reducible refine HC.out.mono ?_
    rintro _ W1 ⟨rfl, hb1⟩
    have HB1 := Lib.hid (HB.out.trans (hb1.mono HB.out.size))
    have HV1 := Lib.hid (HV.out.below hb1)
    clear hb1 HB HK HV HC
    have HZ1 := Lib.hid (show ((W1.alloc (.cells #[.int .u8 0, .int .u8 0, .int .u8 0, .int .u8 0, .int .u8 0, .int .u8 0, .int .u8 0, .int .u8 0, .int .u8 0, .int .u8 0, .int .u8 0, .int .u8 0, .int .u8 0, .int .u8 0, .int .u8 0, .int .u8 0, .int .u8 0, .int .u8 0, .int .u8 0, .int .u8 0, .int .u8 0, .int .u8 0, .int .u8 0, .int .u8 0, .int .u8 0, .int .u8 0, .int .u8 0, .int .u8 0, .int .u8 0, .int .u8 0, .int .u8 0, .int .u8 0] 24)).alloc (.cells #[.int .u8 0, .int .u8 0, .int .u8 0, .int .u8 0, .int .u8 0, .int .u8 0, .int .u8 0, .int .u8 0, .int .u8 0, .int .u8 0, .int .u8 0, .int .u8 0, .int .u8 0, .int .u8 0, .int .u8 0, .int .u8 0, .int .u8 0, .int .u8 0, .int .u8 0, .int .u8 0, .int .u8 0, .int .u8 0, .int .u8 0, .int .u8 0, .int .u8 0, .int .u8 0, .int .u8 0, .int .u8 0, .int .u8 0, .int .u8 0, .int .u8 0, .int .u8 0] 24)).heap[W1.heap.size]? = some (.cells (u8s (List.replicate 32 0)).toArray 24 (0, 0)) from (Below.heap_alloc _ _ _ (by simp)).trans (heap_alloc_new W1 _))
    have HTH1 := Lib.hid (thereL (n := tL.toArray.size) HZ1.out (by rw [List.size_toArray, HtL.out]; simp [u8s_len]))
    have HZ2 := Lib.hid (show (((W1.alloc (.cells #[.int .u8 0, .int .u8 0, .int .u8 0, .int .u8 0, .int .u8 0, .int .u8 0, .int .u8 0, .int .u8 0, .int .u8 0, .int .u8 0, .int .u8 0, .int .u8 0, .int .u8 0, .int .u8 0, .int .u8 0, .int .u8 0, .int .u8 0, .int .u8 0, .int .u8 0, .int .u8 0, .int .u8 0, .int .u8 0, .int .u8 0, .int .u8 0, .int .u8 0, .int .u8 0, .int .u8 0, .int .u8 0, .int .u8 0, .int .u8 0, .int .u8 0, .int .u8 0] 24)).alloc (.cells #[.int .u8 0, .int .u8 0, .int .u8 0, .int .u8 0, .int .u8 0, .int .u8 0, .int .u8 0, .int .u8 0, .int .u8 0, .int .u8 0, .int .u8 0, .int .u8 0, .int .u8 0, .int .u8 0, .int .u8 0, .int .u8 0, .int .u8 0, .int .u8 0, .int .u8 0, .int .u8 0, .int .u8 0, .int .u8 0, .int .u8 0, .int .u8 0, .int .u8 0, .int .u8 0, .int .u8 0, .int .u8 0, .int .u8 0, .int .u8 0, .int .u8 0, .int .u8 0] 24)).setCells W1.heap.size 0 tL).heap[W1.heap.size + 1]? = some (.cells (u8s (List.replicate 32 0)).toArray 24 (0, 0)) from ((grown_cells W1.heap.size tL 0 _).block _ (by simp) (by simp)).trans (heap_alloc_2 W1 _ _))
    have HTH2 := Lib.hid (thereL (n := mL.toArray.size) HZ2.out (by rw [List.size_toArray, HmL.out]; simp [u8s_len]))
    go_upto_region 4 with (first
      | (with_reducible refine wpList_store_mid rfl 24 _ _ rfl W1.heap.size 0 tL.toArray rfl rfl HTH1.out (by rw [List.size_toArray, HtL.out]; exact info_k) HtL1.out ?_)
      | (with_reducible refine wpList_store_mid rfl 24 _ _ rfl (W1.heap.size + 1) 0 mL.toArray rfl rfl HTH2.out (by rw [List.size_toArray, HmL.out]; exact info_k) HmL1.out ?_))
    generalize hY : (((W1.alloc _).alloc _).setCells _ _ _).setCells _ _ _ = Y
    have HT := Lib.hid (show Y.heap[W1.heap.size]? = some (.cells tL.toArray 24 (0, 0)) by rw [← hY]; exact ((grown_cells (W1.heap.size + 1) mL 0 _).block _ (blk_lt (heap_setCells_all (vs := tL) HZ1.out (by rw [HtL.out]; simp [u8s_len]))) (by simp)).trans (heap_setCells_all (vs := tL) HZ1.out (by rw [HtL.out]; simp [u8s_len])))
    have HM := Lib.hid (show Y.heap[W1.heap.size + 1]? = some (.cells mL.toArray 24 (0, 0)) by rw [← hY]; exact heap_setCells_all (vs := mL) HZ2.out (by rw [HmL.out]; simp [u8s_len]))
    have hby : Below W1.heap.size W1 Y := by rw [← hY]; exact ((((Below.refl _ _).alloc (Nat.le_refl _) _).alloc (by simp) _).trans (Lib.below_setCells_w (Nat.le_refl _) _ _ _)).trans (Lib.below_setCells_w (by omega) _ _ _)
    have HBy := Lib.hid (HB1.out.trans (hby.mono HB1.out.size))
    have HVy := Lib.hid (HV1.out.below hby)
    obtain ⟨T, hT⟩ : ∃ T, W1.heap.size = T := ⟨_, rfl⟩
    obtain ⟨M, hM⟩ : ∃ M, T + 1 = M := ⟨_, rfl⟩
    rw [hT] at HT HM ⊢
    rw [hM] at HM ⊢
    clear hY hby hT hM HZ1 HZ2 HTH1 HTH2 HB1 HV1
    simp only [Act.put]
    have HTl := Lib.hid (blk_lt HT.out)
    have HMl := Lib.hid (blk_lt HM.out)
    have hex : (⟨box.toArray⟩ : ByteArray).extract 0 n = ⟨ah.toArray⟩ := by rw [ba_upto, Hah.out]
    have m0 : (0 : Int) ≤ (n : Int) := by omega
    go_wp2_with fail
    have hex2 : (⟨box.toArray⟩ : ByteArray).extract n box.length = ⟨bt.toArray⟩ := by rw [ba_from, Hbt.out]
    have hSl : Y.drew.rangeAt M 0 mL ∧ Y.drew.rangeAt T 0 tL := ⟨rangeL HM.out, rangeL HT.out⟩
    refine wp_region_held_drew (S := (fun w' => w'.rangeAt M 0 mL ∧ w'.rangeAt T 0 tL)) (by kernel_rfl) (by exact hSl) (fun hHeld => ?_)
    refine wpAnyH_take (i := 1) (v := ?_) rfl (by kernel_rfl) (by kernel_rfl) (by kernel_rfl) (fun _ _ _ h => h) (Or.inl ⟨by kernel_rfl, ?_⟩) hHeld ?_
    rotate_left
    · (intro w' hSw; (try dsimp only at hSw); (try obtain ⟨hS0, hS1⟩ := hSw); go_simp; try with_reducible rfl)
    simp only [Act.put, List.setIfInBounds_toArray, List.set_cons_zero, List.set_cons_succ, List.getElem_toArray, List.getElem_cons_succ, List.getElem_cons_zero]
    refine wpAnyH_take (i := 2) (v := ?_) rfl (by kernel_rfl) (by kernel_rfl) (by kernel_rfl) (fun _ _ _ h => h) (Or.inl ⟨by kernel_rfl, ?_⟩) hHeld ?_
    rotate_left
    · (intro w' hSw; (try dsimp only at hSw); (try obtain ⟨hS0, hS1⟩ := hSw); go_simp; try with_reducible rfl)
    simp only [Act.put, List.setIfInBounds_toArray, List.set_cons_zero, List.set_cons_succ, List.getElem_toArray, List.getElem_cons_succ, List.getElem_cons_zero]
    refine wpAnyH_take (i := 4) (v := ?_) rfl (by kernel_rfl) (by kernel_rfl) (by kernel_rfl) (fun _ _ _ h => h) (Or.inl ⟨by kernel_rfl, ?_⟩) hHeld ?_
    rotate_left
    · (intro w' hSw; (try dsimp only at hSw); (try obtain ⟨hS0, hS1⟩ := hSw); go_simp; try with_reducible rfl)
    simp only [Act.put, List.setIfInBounds_toArray, List.set_cons_zero, List.set_cons_succ, List.getElem_toArray, List.getElem_cons_succ, List.getElem_cons_zero]
    refine wpAnyH_take (i := 5) (v := ?_) rfl (by kernel_rfl) (by kernel_rfl) (by kernel_rfl) (fun _ _ _ h => h) (Or.inl ⟨by kernel_rfl, ?_⟩) hHeld ?_
    rotate_left
    · (intro w' hSw; (try dsimp only at hSw); (try obtain ⟨hS0, hS1⟩ := hSw); go_simp; try with_reducible rfl)
    simp only [Act.put, List.setIfInBounds_toArray, List.set_cons_zero, List.set_cons_succ, List.getElem_toArray, List.getElem_cons_succ, List.getElem_cons_zero]
    refine wpAnyH_take (i := 6) (v := ?_) rfl (by kernel_rfl) (by kernel_rfl) (by kernel_rfl) (fun _ _ _ h => h) (Or.inl ⟨by kernel_rfl, ?_⟩) hHeld ?_
    rotate_left
    · (intro w' hSw; (try dsimp only at hSw); (try obtain ⟨hS0, hS1⟩ := hSw); go_simp; try with_reducible rfl)
    simp only [Act.put, List.setIfInBounds_toArray, List.set_cons_zero, List.set_cons_succ, List.getElem_toArray, List.getElem_cons_succ, List.getElem_cons_zero]
    refine wpAnyH_take (i := 7) (v := ?_) rfl (by kernel_rfl) (by kernel_rfl) (by kernel_rfl) (fun _ _ _ h => h) (Or.inl ⟨by kernel_rfl, ?_⟩) hHeld ?_
    rotate_left
    · (intro w' hSw; (try dsimp only at hSw); (try obtain ⟨hS0, hS1⟩ := hSw); go_simp; try with_reducible rfl)
    simp only [Act.put, List.setIfInBounds_toArray, List.set_cons_zero, List.set_cons_succ, List.getElem_toArray, List.getElem_cons_succ, List.getElem_cons_zero]
    refine wpAnyH_take (i := 0) (v := .agg (mL).toArray) rfl (by kernel_rfl) (by kernel_rfl) (by kernel_rfl) (fun _ _ _ h => h) (yieldsIf_load_mid (by kernel_rfl) 24 _ rfl (M) (0) rfl mL _ (fun _ h => h.1) Tryd.underlying24 rfl (by rw [HmL.out]; exact info_k)) hHeld ?_
    simp only [Act.put, List.setIfInBounds_toArray, List.set_cons_zero, List.set_cons_succ, List.getElem_toArray, List.getElem_cons_succ, List.getElem_cons_zero]
    refine wpAnyH_ready (rs := [3]) (by kernel_rfl) (by simp) (AllReadyH.cons rfl (fun K hK => ?_) AllReadyH.nil)
    go_simp
    have HC2 := Lib.hid (HTc.out Y.drew ⟨HVy.out.e, HVy.out.r⟩)
    with_reducible refine HC2.out.mono ?_
    rintro _ Z ⟨rfl, hz⟩
    have hSz : Z.rangeAt M 0 mL ∧ Z.rangeAt T 0 tL := ⟨hSl.1.keep hz HMl.out, hSl.2.keep hz HTl.out⟩
    refine hK.out _ _ hSz (fun hHeld => ?_)
    clear hK K
    (try simp only [Act.put, List.setIfInBounds_toArray, List.set_cons_zero, List.set_cons_succ, List.getElem_toArray, List.getElem_cons_succ, List.getElem_cons_zero])
    have HTz := Lib.hid hSz.2
    replace hz : Below Y.heap.size Y Z := ⟨hz.os, hz.tape, hz.output, hz.size, hz.block⟩
    have HBz := Lib.hid (HBy.out.trans (hz.mono HBy.out.size))
    have HTlz := Lib.hid (Nat.lt_of_lt_of_le HTl.out hz.size)
    clear hz HC2 HM HT HBy HVy HTc
    by_cases htb : tg = bt
    · rw [if_pos htb] at HR
      subst htb
      refine wpAnyH_take (i := 8) (v := ?_) rfl (by kernel_rfl) (by kernel_rfl) (by kernel_rfl) (fun _ _ _ h => h) (Or.inl ⟨by kernel_rfl, ?_⟩) hHeld ?_
      rotate_left
      · (intro w' hSw; (try dsimp only at hSw); (try obtain ⟨hS0, hS1⟩ := hSw); go_simp; try with_reducible rfl)
      simp only [Act.put, List.setIfInBounds_toArray, List.set_cons_zero, List.set_cons_succ, List.getElem_toArray, List.getElem_cons_succ, List.getElem_cons_zero]
      refine wpAnyH_done (by kernel_rfl) ?_ _
      clear hSz hSl hHeld
      have g12 : (12 : Int) ≤ (n : Int) := by omega
      have hex3 : (⟨ah.toArray⟩ : ByteArray).extract 12 n = ⟨da.toArray⟩ := by rw [← hahl, ba_from, Hda.out]
      go_wp2_with fail
      refine wp_region_held_drew (S := (fun w' => w'.rangeAt T 0 tL)) (by kernel_rfl) (by exact HTz.out) (fun hHeld => ?_)
      refine wpAnyH_take (i := 1) (v := ?_) rfl (by kernel_rfl) (by kernel_rfl) (by kernel_rfl) (fun _ _ _ h => h) (Or.inl ⟨by kernel_rfl, ?_⟩) hHeld ?_
      rotate_left
      · (intro w' hSw; (try dsimp only at hSw); go_simp; try with_reducible rfl)
      simp only [Act.put, List.setIfInBounds_toArray, List.set_cons_zero, List.set_cons_succ, List.getElem_toArray, List.getElem_cons_succ, List.getElem_cons_zero]
      refine wpAnyH_take (i := 3) (v := ?_) rfl (by kernel_rfl) (by kernel_rfl) (by kernel_rfl) (fun _ _ _ h => h) (Or.inl ⟨by kernel_rfl, ?_⟩) hHeld ?_
      rotate_left
      · (intro w' hSw; (try dsimp only at hSw); go_simp; try with_reducible rfl)
      simp only [Act.put, List.setIfInBounds_toArray, List.set_cons_zero, List.set_cons_succ, List.getElem_toArray, List.getElem_cons_succ, List.getElem_cons_zero]
      refine wpAnyH_take (i := 4) (v := ?_) rfl (by kernel_rfl) (by kernel_rfl) (by kernel_rfl) (fun _ _ _ h => h) (Or.inl ⟨by kernel_rfl, ?_⟩) hHeld ?_
      rotate_left
      · (intro w' hSw; (try dsimp only at hSw); go_simp; try with_reducible rfl)
      simp only [Act.put, List.setIfInBounds_toArray, List.set_cons_zero, List.set_cons_succ, List.getElem_toArray, List.getElem_cons_succ, List.getElem_cons_zero]
      refine wpAnyH_take (i := 0) (v := .agg (tL).toArray) rfl (by kernel_rfl) (by kernel_rfl) (by kernel_rfl) (fun _ _ _ h => h) (yieldsIf_load_mid (by kernel_rfl) 24 _ rfl (T) (0) rfl tL _ (fun _ h => h) Tryd.underlying24 rfl (by rw [HtL.out]; exact info_k)) hHeld ?_
      simp only [Act.put, List.setIfInBounds_toArray, List.set_cons_zero, List.set_cons_succ, List.getElem_toArray, List.getElem_cons_succ, List.getElem_cons_zero]
      refine wpAnyH_ready (rs := [2]) (by kernel_rfl) (by simp) (AllReadyH.cons rfl (fun K hK => ?_) AllReadyH.nil)
      go_simp
      have HC3 := Lib.hid (HNc.out Z.drew)
      with_reducible refine HC3.out.mono ?_
      rintro _ Z2 ⟨rfl, hz2⟩
      have hS2 := HTz.out.keep (w' := Z2) (n := Z.heap.size) ⟨hz2.os, hz2.tape, hz2.output, hz2.size, hz2.block⟩ HTlz.out
      refine hK.out _ _ hS2 (fun hHeld => ?_)
      clear hK K
      (try simp only [Act.put, List.setIfInBounds_toArray, List.set_cons_zero, List.set_cons_succ, List.getElem_toArray, List.getElem_cons_succ, List.getElem_cons_zero])
      have HB2 := Lib.hid (HBz.out.drew.trans (hz2.mono HBz.out.drew.size))
      have HT2l := Lib.hid (show T < Z2.heap.size from Nat.lt_of_lt_of_le HTlz.out hz2.size)
      clear hz2 HC3 HBz HTz
      refine wpAnyH_ready (rs := [5]) (by kernel_rfl) (by simp) (AllReadyH.cons rfl (fun K hK => ?_) AllReadyH.nil)
      go_simp
      have HC4 := Lib.hid (HXc.out Z2)
      with_reducible refine HC4.out.mono ?_
      rintro _ Z3 ⟨rfl, hz3⟩
      have hS3 := hS2.keep hz3 HT2l.out
      have HB3 := Lib.hid (HB2.out.trans (hz3.mono HB2.out.size))
      refine hK.out _ _ hS3 (fun hHeld => ?_)
      clear hK K
      (try simp only [Act.put, List.setIfInBounds_toArray, List.set_cons_zero, List.set_cons_succ, List.getElem_toArray, List.getElem_cons_succ, List.getElem_cons_zero])
      refine wpAnyH_take (i := 6) (v := ?_) rfl (by kernel_rfl) (by kernel_rfl) (by kernel_rfl) (fun _ _ _ h => h) (Or.inl ⟨by kernel_rfl, ?_⟩) hHeld ?_
      rotate_left
      · (intro w' hSw; (try dsimp only at hSw); go_simp; try with_reducible rfl)
      simp only [Act.put, List.setIfInBounds_toArray, List.set_cons_zero, List.set_cons_succ, List.getElem_toArray, List.getElem_cons_succ, List.getElem_cons_zero]
      refine wpAnyH_take (i := 7) (v := ?_) rfl (by kernel_rfl) (by kernel_rfl) (by kernel_rfl) (fun _ _ _ h => h) (Or.inl ⟨by kernel_rfl, ?_⟩) hHeld ?_
      rotate_left
      · (intro w' hSw; (try dsimp only at hSw); go_simp; try with_reducible rfl)
      simp only [Act.put, List.setIfInBounds_toArray, List.set_cons_zero, List.set_cons_succ, List.getElem_toArray, List.getElem_cons_succ, List.getElem_cons_zero]
      refine wpAnyH_done (by kernel_rfl) ?_ _
      clear hz3 hS2 hS3 hHeld
      go_wp2_with fail
      go_ret2
      exact ⟨by rw [HR.out]; rfl, HB3.out⟩
    · rw [if_neg htb] at HR
      have hn1 : (tg == bt) = false := beq_false_of_ne htb
      refine wpAnyH_take (i := 8) (v := ?_) rfl (by kernel_rfl) (by kernel_rfl) (by kernel_rfl) (fun _ _ _ h => h) (Or.inl ⟨by kernel_rfl, ?_⟩) hHeld ?_
      rotate_left
      · (intro w' hSw; (try dsimp only at hSw); (try obtain ⟨hS0, hS1⟩ := hSw); go_simp; try with_reducible rfl)
      simp only [Act.put, List.setIfInBounds_toArray, List.set_cons_zero, List.set_cons_succ, List.getElem_toArray, List.getElem_cons_succ, List.getElem_cons_zero]
      refine wpAnyH_done (by kernel_rfl) ?_ _
      clear hSz hSl hHeld
      go_wp2_with fail
      go_ret2
      exact ⟨by rw [HR.out]; rfl, HBz.out⟩
end Go.Proofs.YtadoplgmeoghmaaDoor
