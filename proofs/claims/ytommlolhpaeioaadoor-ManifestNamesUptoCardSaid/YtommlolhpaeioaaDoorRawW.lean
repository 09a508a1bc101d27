/- The walks of the document's digest, raw, Insert, Names: digests out of bytes, their bytes, names put in. -/
import Derived.Test.YtommlolhpaeioaaDoorHexW
import Derived.Test.YtommlolhpaeioaaDoorMfChk
import Derived.Test.YtommlolhpaeioaaDoorMfNm
namespace Go.Proofs.YtommlolhpaeioaaDoor
open Go.RowKit
set_option linter.unusedVariables false
set_option linter.unusedSimpArgs false
attribute [local go_sem] ba_get ba_cut ba_add
theorem results_dig1 {fn : Func} {tmps : Array Value} {w : World} {a B : Nat} {cs : List Value} (hf : fn.results = #[.cell a 26]) (ha : tmps[a]?.getD undef = .pointer (some ⟨B, 0, none⟩)) (hc : w.rangeAt B 0 cs) (hl : cs.length = 32) :
    (results fn tmps).run Tryd.prog w = .ok (.agg cs.toArray) w := by
  have h := run_loadVar_mid (P := Tryd.prog) w B 0 26 cs _ hc Tryd.underlying26 rfl (by rw [hl]; exact info_dig)
  simp [results, hf, ha, asAddr, h, Sem.run_bind]
set_option maxRecDepth 100000 in
set_option maxHeartbeats 2000000 in
theorem digest_any (s : List UInt8) (w : World) (hs : 32 ≤ s.length) (hs2 : s.length ≤ 140737488355328) : Calls Tryd.prog 88 #[.string ⟨s.toArray⟩] w (RetB (fun v _ => v = .agg (byC (s.take 32)).toArray) w) := by
  obtain ⟨Z, hZ⟩ : ∃ Z, Z = zero32 := ⟨_, rfl⟩
  have HZ := Lib.hid hZ; clear hZ
  go_enter Tryd.func88, Tryd.ntmps88
  go_upto_region 1 with (fail)
  generalize hV : w.alloc _ = V
  have hR : V.heap[w.heap.size]? = some (.cells Z.toArray 26 (0, 0)) := by rw [← hV, HZ.out]; exact heap_alloc_new w _
  have hbV : Below w.heap.size w V := by rw [← hV]; exact (Below.refl _ _).alloc (Nat.le_refl _) _
  have hsz : V.heap.size = w.heap.size + 1 := by rw [← hV]; simp
  have HSZ := Lib.hid hsz; clear hV hsz
  go_upto_region 2 with (first | (with_reducible refine wpList_build_Z HZ.out rfl rfl ?_) | (with_reducible refine wpList_store_dig rfl _ _ rfl _ Z rfl rfl rfl (len_Z HZ.out) (onea_Z HZ.out) ?_))
  have hsz := HSZ.out
  rw [hsz]
  generalize hV2 : V.alloc _ = V2
  have hD : V2.heap[w.heap.size + 1]? = some (.cells (part32 []).toArray 26 (0, 0)) := by rw [← hV2, HZ.out, ← hsz]; exact heap_alloc_new V _
  have hR2 : V2.heap[w.heap.size]? = some (.cells Z.toArray 26 (0, 0)) := by rw [← hV2]; exact (Below.heap_alloc _ _ _ (by omega)).trans hR
  have hbV2 : Below w.heap.size w V2 := by rw [← hV2]; exact hbV.alloc hbV.size _
  clear hV2 hR hbV hsz HSZ V
  go_wp2_with fail
  go_loopw [4] (fun i wr => ∃ (k : Nat), k ≤ 32 ∧ i = .int .i64 (k : Nat) ∧ wr.heap[w.heap.size]? = some (.cells Z.toArray 26 (0, 0)) ∧ wr.heap[w.heap.size + 1]? = some (.cells (part32 (s.take k)).toArray 26 (0, 0)) ∧ Below w.heap.size w wr) (fun i _ => 32 - (intOf i).toNat)
  case atStart => exact ⟨0, by omega, rfl, hR2, hD, hbV2⟩
  case round =>
    clear hR2 hD hbV2
    obtain ⟨k, hk, rfl, hR, hD, hbV⟩ := hrel
    by_cases hkl : k < 32
    · have hks : k < s.length := by omega
      have hlk : (s.take k).length = k := by rw [List.length_take]; omega
      obtain ⟨c, hc⟩ : ∃ c, s[k] = c := ⟨_, rfl⟩
      have HC := Lib.hid (And.intro hc hlk)
      have hj1 : (0 : Int) ≤ (k : Int) := by omega
      have hj2 : (k : Int) < 32 := by omega
      have hcell : ∃ u, wr.cell? ⟨w.heap.size + 1, k, none⟩ = some u := by
        rw [cell_row wr (w.heap.size + 1) k _ _ hD]
        have := part32_len (l := s.take k) (by omega)
        exact ⟨_, by simpa using List.getElem?_eq_getElem (by omega : k < (part32 (s.take k)).length)⟩
      obtain ⟨u, hu⟩ := hcell
      have hfz : wr.frozen? ⟨w.heap.size + 1, k, none⟩ = false := frozen_of wr _ _ _ _ hD
      clear hlk
      go_wp2_with fail
      obtain ⟨r1, r2, r3⟩ := fill_step c hR hD hbV HC.out.2 hkl
      go_roundw
      case rel => exact ⟨k + 1, by omega, by go_num, r1, (by rw [List.take_succ_eq_append_getElem hks, HC.out.1]; exact r2), r3⟩
      case measure => simp [intOf]; omega
    · obtain rfl : k = 32 := by omega
      have hl32 : (s.take 32).length = 32 := by rw [List.length_take]; omega
      rw [part32_full hl32] at hD
      obtain ⟨l, hl⟩ : ∃ l, s.take 32 = l := ⟨_, rfl⟩
      rw [hl] at hD hl32
      have HL := Lib.hid hl32; have HL2 := Lib.hid hl; clear hl32 hl
      go_wp2_with (first | (with_reducible refine wpList_load_mid rfl 26 _ rfl (w.heap.size + 1) 0 rfl (byC l) _ (range_row hD) Tryd.underlying26 rfl (info_byl HL.out) ?_) | (with_reducible refine wpList_store_mid rfl 26 _ _ rfl w.heap.size 0 (byC l).toArray rfl rfl (there_row hR (size_Zby HZ.out HL.out)) (info_by HL.out) (onea_by l) ?_))
      refine bodyPost_ret (results_dig1 (cs := byC l) rfl rfl (World.rangeAt_setCells_same _ _ _ _ (there_row hR (size_Zby HZ.out HL.out))) (by rw [byC_len]; exact HL.out)) rfl ?_
      exact ⟨_, rfl, by rw [HL2.out], hbV.trans (Lib.below_setCells_w (Nat.le_refl _) _ _ _)⟩
set_option maxRecDepth 100000 in
set_option maxHeartbeats 2000000 in
theorem raw_any (A : Option Addr) (n c : Nat) (l : List (List UInt8)) (w : World) (ha : Rd w 1 A n (strs l)) (hok : l.all Pl.okN = true) (hn : n ≤ 1000) (hs : ∀ t ∈ l, t.length ≤ 140737488355328) : Calls Tryd.prog 48 #[.slice A n c] w (RetB (fun v _ => v = .string ⟨(Pl.rawB l).toArray⟩) w) := by
  have hl := ha.len1; rw [strs_len] at hl
  have HL := Lib.hid (And.intro hl (And.intro hok hs)); clear hl hok hs
  go_enter Tryd.func48, Tryd.ntmps48
  go_wp2_with fail
  go_loopw [3, 11] (fun v i wr => ∃ (k : Nat) (xs : List UInt8), k ≤ n ∧ i = .int .i64 (k : Nat) ∧ v = .string ⟨xs.toArray⟩ ∧ Below w.heap.size w wr ∧ xs.length ≤ 32 * k ∧ Hid (Pl.rawB (l.take k) = xs)) (fun _ i _ => n - (intOf i).toNat)
  case atStart => exact ⟨0, [], by omega, rfl, rfl, Below.refl _ _, by simp, rfl⟩
  case round =>
    obtain ⟨k, xs, hk, rfl, rfl, hbV, hxl, HX⟩ := hrel
    by_cases hkl : k < n
    · have hkd : k < l.length := by rw [HL.out.1]; exact hkl
      have ha' := ha.below hbV
      obtain ⟨b1, o1, rfl, -, hc1⟩ := ha'.at1 hkl
      rw [strs_get l k hkd] at hc1
      have hst : Pl.rawB (l.take (k + 1)) = Pl.rawB (l.take k) ++ Pl.digS l[k] := by rw [List.take_succ_eq_append_getElem hkd, Pl.rawB_snoc]
      have htl := HL.out.2.2 _ (List.getElem_mem hkd)
      have hto : Pl.okN l[k] = true := List.all_eq_true.1 HL.out.2.1 _ (List.getElem_mem hkd)
      obtain ⟨t, ht⟩ : ∃ t, l[k] = t := ⟨_, rfl⟩
      rw [ht] at hc1 htl hst hto
      rw [HX.out] at hst
      have hcall := fun w => rof_at t w htl
      have hdl := Pl.digS_len hto
      have hdd : digOf (Pl.hashOf t) = byC (Pl.digS t) := by
        unfold Pl.okN at hto
        unfold Pl.digS
        cases hh : Pl.hashOf t with
        | none => rw [hh] at hto; cases hto
        | some d => rfl
      rw [hdd, hto] at hcall
      obtain ⟨d, hd⟩ : ∃ d, Pl.digS t = d := ⟨_, rfl⟩
      rw [hd] at hcall hst hdl
      obtain ⟨D, hD⟩ : ∃ D, byC d = D := ⟨_, rfl⟩
      have hDl : D.length = 32 := by rw [← hD, byC_len, hdl]
      have hDo : D.toArray.all (·.oneCell') = true := by rw [← hD]; exact onea_by d
      rw [hD] at hcall
      have HC := Lib.hid hcall
      have HS := Lib.hid hst
      have HD := Lib.hid (And.intro hDl (And.intro hDo (And.intro hD hdl)))
      clear hcall hst hdd hd hD hDl hDo hdl hto ht htl ha'
      go_wp2_with fail
      (with_reducible refine (HC.out _).mono ?_)
      rintro e w1 ⟨v, rfl, rfl, hb1⟩
      go_upto_region 6 with (with_reducible refine wpList_store_dig rfl _ _ rfl _ D rfl rfl rfl HD.out.1 HD.out.2.1 ?_)
      generalize hV : w1.alloc _ = V
      have hR : V.heap[w1.heap.size]? = some (.cells D.toArray 26 (0, 0)) := by rw [← hV]; exact heap_alloc_new w1 _
      have hbV2 : Below w.heap.size w V := by rw [← hV]; exact (hbV.trans (hb1.mono hbV.size)).alloc (Nat.le_trans hbV.size hb1.size) _
      have hgs : w.heap.size ≤ w1.heap.size := Nat.le_trans hbV.size hb1.size
      clear hV hbV hb1
      obtain ⟨H, hH⟩ : ∃ H, w1.heap.size = H := ⟨_, rfl⟩
      rw [hH] at hR hgs ⊢
      clear hH w1
      go_wp2_with fail
      obtain ⟨wo, rfl⟩ : ∃ wo : World, wo = wr := ⟨_, rfl⟩
      go_loopw [3, 8] (fun v i wr => ∃ (j : Nat) (ys : List UInt8), j ≤ 32 ∧ i = .int .i64 (j : Nat) ∧ v = .string ⟨ys.toArray⟩ ∧ wr.heap[H]? = some (.cells D.toArray 26 (0, 0)) ∧ Below w.heap.size w wr ∧ ys.length = xs.length + j ∧ Hid (xs ++ d.take j = ys)) (fun _ i _ => 32 - (intOf i).toNat)
      case atStart => exact ⟨0, xs, by omega, rfl, rfl, hR, hbV2, rfl, by simp [Hid]⟩
      case round =>
        clear hR hbV2
        obtain ⟨j, ys, hj, rfl, rfl, hR, hbV, hyl, HY⟩ := hrel
        by_cases hjl : j < 32
        · have hjd : j < d.length := by rw [HD.out.2.2.2]; exact hjl
          obtain ⟨x, hx⟩ : ∃ x, d[j] = x := ⟨_, rfl⟩
          have hc : wr.cell? ⟨H, j, none⟩ = some (.int .u8 (x.toNat : Int)) := by
            rw [cell_row wr H j _ _ hR, ← HD.out.2.2.1]
            have := byC_get hjd
            rw [hx] at this
            simpa using this
          have hj1 : (0 : Int) ≤ (j : Int) := by omega
          have hj2 : (j : Int) < 32 := by omega
          have hxb := x.toNat_lt
          have HH := Lib.hid hx; clear hx
          have hcat : ys.length + 1 ≤ 9223372036854775807 := by omega
          have hcv := byte_conv (wr.alloc (.cells #[.int .u8 (x.toNat : Int)] 5)) wr.heap.size x 1 (World.cell?_alloc_new _ _ _ _)
          go_wp2_with fail
          go_roundw
          case rel => exact ⟨j + 1, ys ++ [x], by omega, by go_num, rfl, (Below.heap_alloc _ _ _ (blk_lt hR)).trans hR, hbV.alloc hbV.size _, by simp; omega, by rw [List.take_succ_eq_append_getElem hjd, HH.out, ← List.append_assoc, HY.out]; rfl⟩
          case measure => simp [intOf]; omega
        · obtain rfl : j = 32 := by omega
          go_wp2_with fail
          go_roundw
          case rel => exact ⟨k + 1, ys, by omega, by go_num, rfl, hbV, by omega, by rw [HS.out, ← HY.out, List.take_of_length_le (by rw [HD.out.2.2.2]; omega)]; rfl⟩
          case measure => simp [intOf]; omega
    · obtain rfl : k = n := by omega
      go_wp2_with fail
      go_ret
      refine ⟨_, rfl, ?_, hbV⟩
      rw [← HX.out, List.take_of_length_le (by rw [HL.out.1]; omega)]; rfl
end Go.Proofs.YtommlolhpaeioaaDoor
