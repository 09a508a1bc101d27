/- The walk of the document's Of: the policy of a text. -/
import Derived.Test.YtmncgnmgdkdhaaaGreatDoorPolOf
import Derived.Test.YtmncgnmgdkdhaaaGreatDoorPolOf1
import Derived.Test.YtmncgnmgdkdhaaaGreatDoorPolRf
import Derived.Test.YtmncgnmgdkdhaaaGreatDoorPolNm
namespace Go.Proofs.YtmncgnmgdkdhaaaGreatDoor
open Go.RowKit
set_option linter.unusedVariables false
set_option linter.unusedSimpArgs false
set_option maxRecDepth 100000 in
set_option maxHeartbeats 8000000 in
theorem rpof_any (s : List UInt8) (w : World) (hs : s.length ≤ 1099511627776) : Calls Tryz.prog 12 #[.string ⟨s.toArray⟩] w (RetB (fun v _ => v = polO (Pl.ofD s)) w) := by
  obtain ⟨Q, hQ⟩ : ∃ Q, Pl.ofD s = Q := ⟨_, rfl⟩
  rw [hQ]
  obtain ⟨Z, hZ⟩ : ∃ Z, Z = polL zPol := ⟨_, rfl⟩
  have hZ4 : Z.length = 4 := by rw [hZ]; rfl
  have hZ1 : Z.toArray.all (·.oneCell') = true := by rw [hZ]; exact polL_one _
  have hZi : (Tryz.prog.info? 23).map (·.size) = some Z.toArray.size := by rw [List.size_toArray, hZ4]; exact info_pol
  have HZ := Lib.hid hZ; clear hZ
  have HQ := Lib.hid hQ; clear hQ
  go_enter Tryz.func12, Tryz.ntmps12
  go_upto_region 1 with (fail)
  generalize hV : World.alloc w _ = V
  have hbV : Below w.heap.size w V := by rw [← hV]; exact (Below.refl _ _).alloc (Nat.le_refl _) _
  have hz0 : V.heap[w.heap.size]? = some (.cells Z.toArray 23 (0, 0)) := by rw [← hV, HZ.out]; exact heap_alloc_new w _
  clear hV
  go_upto_region 2 with (fail)
  generalize hV3 : World.alloc V _ = V3
  have hl : V3.heap[V.heap.size]? = some (.cells ((Pl.lay4 []).map (Value.int .i64)).toArray 55 (0, 0)) := by rw [← hV3]; exact heap_alloc_new V _
  have hbV3 : Below V.heap.size V V3 := by rw [← hV3]; exact (Below.refl _ _).alloc (Nat.le_refl _) _
  have hBl0 : w.heap.size ≠ V.heap.size := by have := blk_lt hz0; omega
  have hBl : w.heap.size ≤ V.heap.size := hbV.size
  replace hz0 := (hbV3.block _ (blk_lt hz0)).trans hz0
  replace hbV := hbV.trans (hbV3.mono hbV.size)
  clear hV3 hbV3
  generalize V.heap.size = Bl at hl hBl0 hBl ⊢
  go_wp2_with fail
  go_loopw [5, 6] (fun r' i wr => ∃ (k : Nat) (ns : List Int) (r : List UInt8), k ≤ 4 ∧ i = .int .i64 k ∧ r' = .string ⟨r.toArray⟩ ∧ Pl.DSt s k ns r ∧ r.length ≤ s.length ∧ wr.heap[Bl]? = some (.cells ((Pl.lay4 ns).map (Value.int .i64)).toArray 55 (0, 0)) ∧ wr.heap[w.heap.size]? = some (.cells Z.toArray 23 (0, 0)) ∧ Below w.heap.size w wr) (fun _ i _ => 4 - (intOf i).toNat)
  case atStart => exact ⟨0, [], s, by omega, rfl, rfl, Pl.DSt.zero s, Nat.le_refl _, hl, hz0, hbV⟩
  case round =>
    clear hl hz0 hbV
    obtain ⟨k, ns, r, hk, rfl, rfl, hW, hrl, hl, hz0, hb⟩ := hrel
    by_cases hk4 : k < 4
    · obtain ⟨g, hg⟩ : ∃ g, Pl.unL.getD k 0 = g := ⟨_, rfl⟩
      have k0 : (0 : Int) ≤ (k : Int) := by omega
      have k1 : (k : Int) < (4 : Int) := by omega
      have hns : ns.length = k := hW.len
      have hix : ∀ h, (⟨#[100, 119, 109, 121]⟩ : ByteArray)[k]'h = g := fun h => by
        rw [← hg]
        have : k = 0 ∨ k = 1 ∨ k = 2 ∨ k = 3 := by omega
        rcases this with rfl | rfl | rfl | rfl <;> rfl
      have hnum := fun W => rnum_any r g W (by omega)
      have HK := Lib.hid (And.intro hnum (And.intro hW (And.intro hl (And.intro hz0 (And.intro hb hg))))); clear hnum hW hl hz0 hb hg
      go_wp2_with fail
      (with_reducible refine (HK.out.1 _).mono ?_)
      rintro e w2 ⟨v, rfl, ⟨n, r1, b, rfl, hcase, hr1⟩, hb2⟩
      have hl2 := (hb2.block _ (blk_lt HK.out.2.2.1)).trans HK.out.2.2.1
      have hz2 := (hb2.block _ (blk_lt HK.out.2.2.2.1)).trans HK.out.2.2.2.1
      have hbw := HK.out.2.2.2.2.1.trans (hb2.mono HK.out.2.2.2.2.1.size)
      have cl : w2.cell? ⟨Bl, k, none⟩ = some (.int .i64 0) := by
        rw [cell_row w2 Bl k _ _ hl2, List.getElem?_toArray, List.getElem?_map]
        unfold Pl.lay4
        rw [List.getElem?_append_right (by omega), List.getElem?_replicate, if_pos (by omega)]; rfl
      have fl : w2.frozen? ⟨Bl, k, none⟩ = false := frozen_of w2 Bl k _ _ hl2
      have hrl1 : r1.length ≤ s.length := Nat.le_trans hr1 hrl
      clear hb2
      rcases hcase with ⟨rfl, hN⟩ | ⟨rfl, hN⟩
      rotate_left
      · have hQ0 : Q = none := by rw [← HQ.out]; exact HK.out.2.1.bad hk4 (by rw [HK.out.2.2.2.2.2]; exact hN)
        clear hN
        have HW := Lib.hid (And.intro hQ0 hbw); clear hQ0 hbw hl2 cl fl
        go_wp2_with (first | (with_reducible refine wpList_build_pz HZ.out rfl rfl ?_) | (with_reducible refine wpList_store_mid rfl 23 _ _ rfl w.heap.size 0 Z.toArray rfl rfl (there_rw hz2 (Nat.le_refl _)) hZi hZ1 ?_))
        refine bodyPost_ret (results_pol (cs := Z) rfl rfl (World.rangeAt_setCells_same _ _ _ _ (there_rw hz2 (Nat.le_refl _))) hZ4) rfl ?_
        exact ⟨_, rfl, by rw [HW.out.1, HZ.out]; rfl, HW.out.2.trans (Lib.below_setCells_w (Nat.le_refl _) _ _ _)⟩
      have e : ((Pl.lay4 ns).map (Value.int .i64)).toArray.setIfInBounds k (.int .i64 n) = ((Pl.lay4 (ns ++ [n])).map (Value.int .i64)).toArray := by
        rw [List.setIfInBounds_toArray, ← List.map_set, Pl.lay4_set hns hk4]
      have hl3 := set_at w2 Bl k _ (.int .i64 n) _ hl2
      rw [e] at hl3
      have hz3 := set_far w2 w.heap.size Bl k _ (.int .i64 n) hz2 hBl0
      have hb3 : Below w.heap.size w (w2.setCell ⟨Bl, k, none⟩ (.int .i64 n)) := hbw.setCell hBl _
      have hN : Pl.numD (Pl.unL.getD k 0) r = some (n, r1) := by rw [HK.out.2.2.2.2.2]; exact hN
      go_upto_region 10 with (fail)
      generalize w2.setCell ⟨Bl, k, none⟩ _ = w3 at hl3 hz3 hb3 ⊢
      have HW := Lib.hid (And.intro hl3 (And.intro hz3 (And.intro hb3 hN))); clear hl3 hz3 hb3 hN hbw hl2 cl fl e hz2
      by_cases hk3 : k < 3
      · have k3 : decide ((k : Int) < 3) = true := decide_eq_true (by omega)
        rcases r1 with _ | ⟨c, r2⟩
        · have hQ0 : Q = none := by rw [← HQ.out]; exact HK.out.2.1.bad2 hk3 HW.out.2.2.2 rfl
          have HB := Lib.hid hQ0; clear hQ0
          go_wp2_with (first | (with_reducible refine wpList_build_pz HZ.out rfl rfl ?_) | (with_reducible refine wpList_store_mid rfl 23 _ _ rfl w.heap.size 0 Z.toArray rfl rfl (there_rw HW.out.2.1 (Nat.le_refl _)) hZi hZ1 ?_))
          · refine bodyPost_ret (results_pol (cs := Z) rfl rfl (World.rangeAt_setCells_same _ _ _ _ (there_rw HW.out.2.1 (Nat.le_refl _))) hZ4) rfl ?_
            exact ⟨_, rfl, by rw [HB.out, HZ.out]; rfl, HW.out.2.2.1.trans (Lib.below_setCells_w (Nat.le_refl _) _ _ _)⟩
        · have hlen : 0 < (c :: r2).length := by simp
          have hne : ((c :: r2) == []) = false := rfl
          have hem : (c :: r2).isEmpty = false := rfl
          have he : (⟨(c :: r2).toArray⟩ : ByteArray).extract 1 (c :: r2).length = ⟨r2.toArray⟩ := by
            have := ext_mk2 (c :: r2) 1
            simpa using this
          have hi0 : ∀ h, (⟨(c :: r2).toArray⟩ : ByteArray)[0]'h = c := fun h => by rw [at_mk (c :: r2) 0 hlen h]; rfl
          have hnx : c = 32 → Pl.DSt s (k + 1) (ns ++ [n]) r2 := fun h => HK.out.2.1.next hk3 HW.out.2.2.2 (by rw [h]; rfl)
          have hbd : c ≠ 32 → Q = none := fun h => by rw [← HQ.out]; exact HK.out.2.1.bad2 hk3 HW.out.2.2.2 (by unfold Pl.blankD; exact if_neg h)
          have hl1 : 1 ≤ (c :: r2).length := hlen
          have hr2 : r2.length ≤ s.length := by simp at hrl1; omega
          have HN := Lib.hid (And.intro hnx (And.intro hbd hr2)); clear hnx hbd hr2
          obtain ⟨r1, hr1e⟩ : ∃ r1, r1 = c :: r2 := ⟨_, rfl⟩
          rw [← hr1e] at hlen hne hem he hi0 hl1 ⊢
          have hl1' : (1 : Int) ≤ (r1.length : Int) := by omega
          clear hr1 hrl1
          by_cases hc : c = 32
          · have c1 : ((c.toNat : Int) != 32) = false := by rw [hc]; rfl
            have c2 : ((c.toNat : Int) == 32) = true := by rw [hc]; rfl
            have HB := Lib.hid hc; clear hc hr1e
            go_wp2_with fail
            exact ⟨⟨k + 1, ns ++ [n], r2, by omega, by rw [Int.natCast_add]; rfl, rfl, HN.out.1 HB.out, HN.out.2.2, HW.out.1, HW.out.2.1, HW.out.2.2.1⟩, by simp [intOf]; omega⟩
          · have c2 : ((c.toNat : Int) == 32) = false := by
              rw [beq_eq_false_iff_ne]; intro h; exact hc (UInt8.toNat_inj.1 (by show c.toNat = 32; omega))
            have c1 : ((c.toNat : Int) != 32) = true := by rw [bne, c2]; rfl
            have HB := Lib.hid (HN.out.2.1 hc); clear hc hr1e
            go_wp2_with (first | (with_reducible refine wpList_build_pz HZ.out rfl rfl ?_) | (with_reducible refine wpList_store_mid rfl 23 _ _ rfl w.heap.size 0 Z.toArray rfl rfl (there_rw HW.out.2.1 (Nat.le_refl _)) hZi hZ1 ?_))
            refine bodyPost_ret (results_pol (cs := Z) rfl rfl (World.rangeAt_setCells_same _ _ _ _ (there_rw HW.out.2.1 (Nat.le_refl _))) hZ4) rfl ?_
            exact ⟨_, rfl, by rw [HB.out, HZ.out]; rfl, HW.out.2.2.1.trans (Lib.below_setCells_w (Nat.le_refl _) _ _ _)⟩
      · have hk33 : k = 3 := by omega
        have k3 : decide ((k : Int) < 3) = false := decide_eq_false (by omega)
        have hnx : Pl.DSt s (k + 1) (ns ++ [n]) r1 := by
          subst hk33; exact HK.out.2.1.last HW.out.2.2.2 r1
        have HN := Lib.hid hnx; clear hnx hk33
        go_wp2_with fail
        exact ⟨⟨k + 1, ns ++ [n], r1, by omega, by rw [Int.natCast_add]; rfl, rfl, HN.out, hrl1, HW.out.1, HW.out.2.1, HW.out.2.2.1⟩, by simp [intOf]; omega⟩
    · obtain rfl : k = 4 := by omega
      obtain ⟨a, b, c, d, rfl⟩ := Pl.four_of hW.len
      rw [Pl.lay4_full rfl] at hl
      have hof := hW.all
      rw [HQ.out] at hof
      have htx := fun W => rtext_any ⟨a, b, c, d⟩ W
      obtain ⟨C, hC⟩ : ∃ C, C = polL ⟨a, b, c, d⟩ := ⟨_, rfl⟩
      have hpc : polV ⟨a, b, c, d⟩ = .agg C.toArray := by rw [hC]; rfl
      rw [hpc] at htx
      have hC4 : C.length = 4 := by rw [hC]; rfl
      have hC1 : C.toArray.all (·.oneCell') = true := by rw [hC]; exact polL_one _
      have hCi : (Tryz.prog.info? 23).map (·.size) = some C.toArray.size := by rw [List.size_toArray, hC4]; exact info_pol
      have hCl : (Tryz.prog.info? 23).map (·.size) = some C.length := by rw [hC4]; exact info_pol
      obtain ⟨t, ht⟩ : ∃ t, Pl.txP ⟨a, b, c, d⟩ = t := ⟨_, rfl⟩
      rw [ht] at htx hof
      have l0 : wr.cell? ⟨Bl, 0, none⟩ = some (.int .i64 a) := cell_row wr Bl 0 _ _ hl
      have l1 : wr.cell? ⟨Bl, 1, none⟩ = some (.int .i64 b) := cell_row wr Bl 1 _ _ hl
      have l2 : wr.cell? ⟨Bl, 2, none⟩ = some (.int .i64 c) := cell_row wr Bl 2 _ _ hl
      have l3 : wr.cell? ⟨Bl, 3, none⟩ = some (.int .i64 d) := cell_row wr Bl 3 _ _ hl
      have HK := Lib.hid (And.intro htx (And.intro hof (And.intro ht hb))); clear htx hof ht hb hl hW
      go_upto_region 16 with (fail)
      generalize hV6 : World.alloc wr _ = V6
      have hp : V6.heap[wr.heap.size]? = some (.cells C.toArray 23 (0, 0)) := by rw [← hV6, hC]; exact heap_alloc_new wr _
      have hb6 : Below wr.heap.size wr V6 := by rw [← hV6]; exact (Below.refl _ _).alloc (Nat.le_refl _) _
      have hz6 := (hb6.block _ (blk_lt hz0)).trans hz0
      have hbw6 := HK.out.2.2.2.trans (hb6.mono HK.out.2.2.2.size)
      clear hV6 hb6 l0 l1 l2 l3 hz0
      generalize wr.heap.size = Bp at hp ⊢
      have HC := Lib.hid (And.intro hC hpc); clear hC hpc
      go_wp2_with (with_reducible refine wpList_load_mid rfl 23 _ rfl Bp 0 rfl C _ (range_rw hp) Tryz.underlying23 rfl hCl ?_)
      (with_reducible refine (HK.out.1 _).mono ?_)
      rintro e w7 ⟨vv, rfl, rfl, hb7⟩
      have hp7 := (hb7.block _ (blk_lt hp)).trans hp
      have hz7 := (hb7.block _ (blk_lt hz6)).trans hz6
      have hbw7 := hbw6.trans (hb7.mono hbw6.size)
      clear hp hz6 hbw6 hb7
      by_cases hg : t = s ∧ s ≠ []
      · have hQs : Q = some ⟨a, b, c, d⟩ := by rw [HK.out.2.1, if_pos hg]
        have q1 : (t == s) = true := by rw [hg.1]; simp
        have q2 : (s == []) = false := beq_eq_false_iff_ne.2 hg.2
        have q3 : s.isEmpty = false := by cases s with | nil => exact absurd rfl hg.2 | cons a r => rfl
        have HG := Lib.hid (And.intro hg hQs); clear hg hQs
        go_wp2_with (first | (with_reducible refine wpList_load_mid rfl 23 _ rfl Bp 0 rfl C _ (range_rw hp7) Tryz.underlying23 rfl hCl ?_) | (with_reducible refine wpList_store_mid rfl 23 _ _ rfl w.heap.size 0 C.toArray rfl rfl (there_rw hz7 (by rw [List.size_toArray, List.size_toArray, hC4, hZ4]; exact Nat.le_refl _)) hCi hC1 ?_))
        refine bodyPost_ret (results_pol (cs := C) rfl rfl (World.rangeAt_setCells_same _ _ _ _ (there_rw hz7 (by rw [List.size_toArray, hC4, hZ4]; exact Nat.le_refl _))) hC4) rfl ?_
        exact ⟨_, rfl, by rw [HG.out.2, HC.out.1]; rfl, hbw7.trans (Lib.below_setCells_w (Nat.le_refl _) _ _ _)⟩
      · have hQ0 : Q = none := by rw [HK.out.2.1, if_neg hg]
        by_cases hts : t = s
        · have hs0 : s = [] := by
            rcases Classical.em (s = []) with h | h
            · exact h
            · exact absurd ⟨hts, h⟩ hg
          have q1 : (t == s) = true := by rw [hts]; simp
          have q2 : (s == []) = true := by rw [hs0]; rfl
          have q3 : s.isEmpty = true := by rw [hs0]; rfl
          have HG := Lib.hid (And.intro hQ0 (And.intro hg (And.intro hts hs0))); clear hQ0 hg hts hs0
          go_wp2_with (first | (with_reducible refine wpList_build_pz HZ.out rfl rfl ?_) | (with_reducible refine wpList_store_mid rfl 23 _ _ rfl w.heap.size 0 Z.toArray rfl rfl (there_rw hz7 (Nat.le_refl _)) hZi hZ1 ?_))
          refine bodyPost_ret (results_pol (cs := Z) rfl rfl (World.rangeAt_setCells_same _ _ _ _ (there_rw hz7 (Nat.le_refl _))) hZ4) rfl ?_
          exact ⟨_, rfl, by rw [HG.out.1, HZ.out]; rfl, hbw7.trans (Lib.below_setCells_w (Nat.le_refl _) _ _ _)⟩
        · have q1 : (t == s) = false := beq_eq_false_iff_ne.2 hts
          have HG := Lib.hid (And.intro hQ0 (And.intro hg hts)); clear hQ0 hg hts
          go_wp2_with (first | (with_reducible refine wpList_build_pz HZ.out rfl rfl ?_) | (with_reducible refine wpList_store_mid rfl 23 _ _ rfl w.heap.size 0 Z.toArray rfl rfl (there_rw hz7 (Nat.le_refl _)) hZi hZ1 ?_))
          refine bodyPost_ret (results_pol (cs := Z) rfl rfl (World.rangeAt_setCells_same _ _ _ _ (there_rw hz7 (Nat.le_refl _))) hZ4) rfl ?_
          exact ⟨_, rfl, by rw [HG.out.1, HZ.out]; rfl, hbw7.trans (Lib.below_setCells_w (Nat.le_refl _) _ _ _)⟩
end Go.Proofs.YtmncgnmgdkdhaaaGreatDoor
