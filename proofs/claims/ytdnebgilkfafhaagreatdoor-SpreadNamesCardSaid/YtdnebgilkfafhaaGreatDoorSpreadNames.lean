/- SpreadNames holds: each name that was written, and isn't dropped, is among all, whatever two of the shelves are instead; all rise. No condition. -/
import Derived.Test.YtdnebgilkfafhaaGreatDoorLaid
import Derived.Test.YtdnebgilkfafhaaGreatDoorTie
import Derived.Test.YtdnebgilkfafhaaGreatDoorCards
import Derived.Test.YtdnebgilkfafhaaGreatDoorSpNp
import Derived.Test.YtdnebgilkfafhaaGreatDoorSpMp
import Derived.Test.YtdnebgilkfafhaaGreatDoorShW2
import Derived.Test.YtdnebgilkfafhaaGreatDoorLaidV
import Derived.Test.YtdnebgilkfafhaaGreatDoorOpen
import Derived.Deep.DeepHandedRow
import Derived.Deep.DeepWitnessRowRef
import Derived.Lib.LaidTab
namespace Go.Proofs.YtdnebgilkfafhaaGreatDoor
open Go.ChangeShapes Go.WideShapes Go.ChangeAt Go.RowKit
set_option linter.unusedVariables false
set_option linter.unusedSimpArgs false
attribute [local go_sem] ba_get ba_cut ba_add
theorem lcheck {q : Li} {y0 y1 y2 y3 y4 y5 : Value} (hL : q.L = [y0, y1, y2, y3, y4, y5]) (W : World) (h : q.Ok W) :
    Calls Tryz.prog 19 #[.agg #[y2, y3]] W (RetB (fun v _ => ∃ e : Nat, v = .int .i64 (e : Int)) W) ∧ Calls Tryz.prog 19 #[.agg #[y4, y5]] W (RetB (fun v _ => ∃ e : Nat, v = .int .i64 (e : Int)) W) := by
  unfold Li.L at hL
  injection hL with e0 hL
  injection hL with e1 hL
  injection hL with e2 hL
  injection hL with e3 hL
  injection hL with e4 hL
  injection hL with e5 hL
  subst e2 e3 e4 e5
  exact ⟨(rcheck_any _ _ _ _ _ _ q.X.objs W rfl h.X.1.1 h.fX.1).mono fun e w' hr => hr.imp fun v _ hv => ⟨_, hv⟩, (rcheck_any _ _ _ _ _ _ q.Y.objs W rfl h.Y.1.1 h.fY.1).mono fun e w' hr => hr.imp fun v _ hv => ⟨_, hv⟩⟩
set_option maxRecDepth 100000 in
set_option maxHeartbeats 8000000 in
theorem spreadNames_walk (A : Option Addr) (n c : Nat) (l : List (List UInt8)) (nm : List UInt8) (q : Li) (w : World) (hr : Rd w 1 A n (strs l)) (hnl : n ≤ 140737488355328) (hls : ∀ s ∈ l, s.length ≤ 140737488355328) (hAc : A = none → c = 0) (hnm : nm.length ≤ 140737488355328) (hq : q.Ok w) (hv : VNum w ∧ VHash w) :
    Calls Tryz.prog 7 #[.slice A n c, .string ⟨nm.toArray⟩, .agg q.L.toArray] w (RetB (fun v _ => v = .bool true) w) := by
  obtain ⟨N, hN⟩ : ∃ N, w.heap.size = N := ⟨_, rfl⟩
  have HV := Lib.hid (And.intro (VSp.mk hv.1 hv.2) (And.intro hr hq))
  have hln : l.length = n := by have := hr.len; simpa [strs] using this
  have hlit := light_any q
  have hbend := fun S X n W h => bend_any S X n q W h
  obtain ⟨y0, y1, y2, y3, y4, y5, hLQ⟩ : ∃ y0 y1 y2 y3 y4 y5, q.L = [y0, y1, y2, y3, y4, y5] := ⟨_, _, _, _, _, _, rfl⟩
  rw [hLQ] at hlit hbend ⊢
  have HQ := Lib.hid (And.intro hlit (And.intro hbend (lcheck hLQ)))
  clear hv hr hq hlit hbend hLQ
  go_enter Tryz.func7, Tryz.ntmps7
  go_upto_region 1 with (fail)
  generalize hW0 : World.alloc w _ = W0
  have hz0 : W0.heap[N]? = some (.cells #[y0, y1, y2, y3, y4, y5] 28 (0, 0)) := by rw [← hW0, ← hN]; exact heap_alloc_new _ _
  have hb0 : Below N w W0 := by rw [← hW0]; exact (Below.refl _ _).alloc (by omega) _
  have HB0 := Lib.hid (And.intro hb0 hz0)
  try simp only [hN]
  clear hW0 hb0 hz0
  go_upto_region 3 with (with_reducible refine (salive_any W0 (HV.out.1.below (by rw [hN]; exact HB0.out.1))).mono ?_)
  rintro _ w1 ⟨v, rfl, rfl, hb1⟩
  have hs0 := HB0.out.1.size
  have hz1 : w1.heap[N]? = some (.cells #[y0, y1, y2, y3, y4, y5] 28 (0, 0)) := heap_keep HB0.out.2 hb1
  have HB := Lib.hid (And.intro (HB0.out.1.trans (hb1.mono (by omega))) hz1)
  have hs1 := hb1.size
  have hNlt := blk_lt hz1
  clear hb1 hz1 HB0
  have z0 : w1.cell? ⟨N, 0, none⟩ = some y0 := by rw [cell_row w1 N 0 _ _ HB.out.2]; rfl
  have z1 : w1.cell? ⟨N, 1, none⟩ = some y1 := by rw [cell_row w1 N 1 _ _ HB.out.2]; rfl
  have z2 : w1.cell? ⟨N, 2, none⟩ = some y2 := by rw [cell_row w1 N 2 _ _ HB.out.2]; rfl
  have z3 : w1.cell? ⟨N, 3, none⟩ = some y3 := by rw [cell_row w1 N 3 _ _ HB.out.2]; rfl
  have z4 : w1.cell? ⟨N, 4, none⟩ = some y4 := by rw [cell_row w1 N 4 _ _ HB.out.2]; rfl
  have z5 : w1.cell? ⟨N, 5, none⟩ = some y5 := by rw [cell_row w1 N 5 _ _ HB.out.2]; rfl
  by_cases hB4 : 8 < n
  · have hB' : decide ((8 : Int) < (n : Int)) = true := by simp; omega
    have hB'' : decide (8 < n) = true := decide_eq_true hB4
    clear hB4
    go_wp2_with fail
    go_ret
    exact ⟨_, rfl, rfl, by rw [hN]; exact HB.out.1⟩
  have hB' : decide ((8 : Int) < (n : Int)) = false := by simp; omega
  have hB'' : decide (8 < n) = false := decide_eq_false hB4
  have hn8 : n ≤ 8 := by omega
  clear hB4
  go_upto_region 4 with (with_reducible refine (HQ.out.1 w1 (HV.out.2.2.below (by rw [hN]; exact HB.out.1))).mono ?_)
  rintro _ w2 ⟨v, rfl, ⟨b, rfl⟩, hb2⟩
  have hz_w2 : w2.heap[N]? = some (.cells #[y0, y1, y2, y3, y4, y5] 28 (0, 0)) := heap_keep HB.out.2 hb2
  have HB2 := Lib.hid (And.intro (HB.out.1.trans (hb2.mono (by omega))) hz_w2)
  have hs_w2 := hb2.size
  clear z0 z1 z2 z3 z4 z5 hb2
  have z0 : w2.cell? ⟨N, 0, none⟩ = some y0 := by rw [cell_row w2 N 0 _ _ hz_w2]; rfl
  have z1 : w2.cell? ⟨N, 1, none⟩ = some y1 := by rw [cell_row w2 N 1 _ _ hz_w2]; rfl
  have z2 : w2.cell? ⟨N, 2, none⟩ = some y2 := by rw [cell_row w2 N 2 _ _ hz_w2]; rfl
  have z3 : w2.cell? ⟨N, 3, none⟩ = some y3 := by rw [cell_row w2 N 3 _ _ hz_w2]; rfl
  have z4 : w2.cell? ⟨N, 4, none⟩ = some y4 := by rw [cell_row w2 N 4 _ _ hz_w2]; rfl
  have z5 : w2.cell? ⟨N, 5, none⟩ = some y5 := by rw [cell_row w2 N 5 _ _ hz_w2]; rfl
  clear hz_w2
  cases b
  · go_wp2_with fail
    go_ret
    exact ⟨_, rfl, rfl, by rw [hN]; exact HB2.out.1⟩
  go_upto_region 4 with (with_reducible refine (HQ.out.2.2 w2 (HV.out.2.2.below (by rw [hN]; exact HB2.out.1))).1.mono ?_)
  rintro _ w3 ⟨v, rfl, ⟨e1, rfl⟩, hb3⟩
  have hz_w3 : w3.heap[N]? = some (.cells #[y0, y1, y2, y3, y4, y5] 28 (0, 0)) := heap_keep HB2.out.2 hb3
  have HB3 := Lib.hid (And.intro (HB2.out.1.trans (hb3.mono (by omega))) hz_w3)
  have hs_w3 := hb3.size
  clear z0 z1 z2 z3 z4 z5 hb3
  have z0 : w3.cell? ⟨N, 0, none⟩ = some y0 := by rw [cell_row w3 N 0 _ _ hz_w3]; rfl
  have z1 : w3.cell? ⟨N, 1, none⟩ = some y1 := by rw [cell_row w3 N 1 _ _ hz_w3]; rfl
  have z2 : w3.cell? ⟨N, 2, none⟩ = some y2 := by rw [cell_row w3 N 2 _ _ hz_w3]; rfl
  have z3 : w3.cell? ⟨N, 3, none⟩ = some y3 := by rw [cell_row w3 N 3 _ _ hz_w3]; rfl
  have z4 : w3.cell? ⟨N, 4, none⟩ = some y4 := by rw [cell_row w3 N 4 _ _ hz_w3]; rfl
  have z5 : w3.cell? ⟨N, 5, none⟩ = some y5 := by rw [cell_row w3 N 5 _ _ hz_w3]; rfl
  clear hz_w3
  by_cases he : e1 = 0
  case neg =>
    have he' : ((e1 : Int) != 0) = true := by rw [bne_iff_ne]; omega
    clear he
    go_wp2_with fail
    go_ret
    exact ⟨_, rfl, rfl, by rw [hN]; exact HB3.out.1⟩
  subst he
  go_upto_region 4 with (with_reducible refine (HQ.out.2.2 w3 (HV.out.2.2.below (by rw [hN]; exact HB3.out.1))).2.mono ?_)
  rintro _ w4 ⟨v, rfl, ⟨e2, rfl⟩, hb4⟩
  have hz_w4 : w4.heap[N]? = some (.cells #[y0, y1, y2, y3, y4, y5] 28 (0, 0)) := heap_keep HB3.out.2 hb4
  have HB4 := Lib.hid (And.intro (HB3.out.1.trans (hb4.mono (by omega))) hz_w4)
  have hs_w4 := hb4.size
  clear z0 z1 z2 z3 z4 z5 hb4
  have z0 : w4.cell? ⟨N, 0, none⟩ = some y0 := by rw [cell_row w4 N 0 _ _ hz_w4]; rfl
  have z1 : w4.cell? ⟨N, 1, none⟩ = some y1 := by rw [cell_row w4 N 1 _ _ hz_w4]; rfl
  have z2 : w4.cell? ⟨N, 2, none⟩ = some y2 := by rw [cell_row w4 N 2 _ _ hz_w4]; rfl
  have z3 : w4.cell? ⟨N, 3, none⟩ = some y3 := by rw [cell_row w4 N 3 _ _ hz_w4]; rfl
  have z4 : w4.cell? ⟨N, 4, none⟩ = some y4 := by rw [cell_row w4 N 4 _ _ hz_w4]; rfl
  have z5 : w4.cell? ⟨N, 5, none⟩ = some y5 := by rw [cell_row w4 N 5 _ _ hz_w4]; rfl
  clear hz_w4
  by_cases he : e2 = 0
  case neg =>
    have he' : ((e2 : Int) != 0) = true := by rw [bne_iff_ne]; omega
    clear he
    go_wp2_with fail
    go_ret
    exact ⟨_, rfl, rfl, by rw [hN]; exact HB4.out.1⟩
  subst he
  go_upto_region 6 with (with_reducible refine (fresh_any w4).mono ?_)
  rintro _ w5 ⟨v, rfl, rfl, hb5⟩
  obtain ⟨L0, hL0⟩ : ∃ L, stoL (fun _ => Pl.noSh) (fun _ => zx) (-1) = L := ⟨_, rfl⟩
  have hl0 : L0.length = 11 := by rw [← hL0]; rfl
  have ho0 : ∀ v ∈ L0, v.oneCell' = true := by rw [← hL0]; exact stoL_one _ _ _
  rw [hL0]
  have hbt := box_there w5 (L := L0) hl0
  have hbi := info_stoA (L := L0) hl0
  go_upto_region 6 with first
    | with_reducible refine wpList_store_mid rfl 33 _ _ rfl w5.heap.size 0 L0.toArray rfl rfl hbt hbi (all_oneCell_toArray ho0) ?_
  obtain ⟨W4, hW⟩ : ∃ W', boxW w5 L0 = W' := ⟨_, rfl⟩
  have hat := box_at w5 (L := L0) hl0
  have hbl := box_below w5 L0
  rw [hW] at hat hbl
  unfold boxW at hW
  obtain ⟨T7, hT⟩ : ∃ T', w5.heap.size = T' := ⟨_, rfl⟩
  rw [hT] at hW hat hbl
  simp only [hT]
  simp only [hW]
  have hge_T7 : w5.heap.size ≤ T7 := Nat.le_of_eq hT
  have hle_T7 : T7 ≤ w5.heap.size := Nat.le_of_eq hT.symm
  clear hW hT hbt hbi
  rw [← hL0, stoL_ext (S' := toS fresh0) _ _ (fun i hi => (fresh_at hi).symm)] at hat
  have h7 : StBx T7 (toS fresh0) (fun _ => zx) (-1) W4 := hat
  have hs5 := hb5.size
  have hsW4 := blk_lt hat
  have hz4 : W4.heap[N]? = some (.cells #[y0, y1, y2, y3, y4, y5] 28 (0, 0)) := heap_keep HB4.out.2 (hb5.trans (hbl.mono (by omega)))
  have hbW4 : Below N w W4 := (HB4.out.1.trans (hb5.mono (by omega))).trans (hbl.mono (by omega))
  have hst4 : StF N W4 (toS fresh0) (fun _ => zx) := (StF.fresh N W4).ext fun i hi => (fresh_at hi).symm
  have HC4 := Lib.hid (And.intro h7 (And.intro hst4 (And.intro hz4 hbW4)))
  have HF0 := Lib.hid fresh_hn
  have hNT : N < T7 := by omega
  clear h7 hat hbl hb5 hL0 hl0 ho0 HB HB2 HB3 HB4 hz4 hbW4 hst4 z0 z1 z2 z3 z4 z5
  have HW0 : Hid (Pl.Std fresh0 (l.take 0)) := Lib.hid fun x hx => by cases hx
  go_wp2_with fail
  go_loopw [46] (fun iv wr => ∃ (j : Nat) (st : Pl.Store) (X : Nat → ShX), j ≤ n ∧ iv = .int .i64 (j : Int) ∧ Hid (StBx T7 (toS st) X (-1) wr ∧ StF N wr (toS st) X ∧ wr.heap[N]? = some (.cells #[y0, y1, y2, y3, y4, y5] 28 (0, 0)) ∧ Below N w wr) ∧ Hid (Hn st (2 * j)) ∧ Hid (Pl.Std st (l.take j)) ∧ Hid (∀ x ∈ l.take j, Pl.okName x = true)) (fun iv _ => n - (intOf iv).toNat)
  case atStart => exact ⟨0, fresh0, _, by omega, rfl, HC4, HF0, HW0, Lib.hid (by simp)⟩
  case round =>
    obtain ⟨j, st, X, hj, rfl, HS, HN, HW, HK⟩ := hrel
    clear HC4 HF0 HW0
    have hsr := HS.out.2.2.2.size
    have h7lt : T7 < wr.heap.size := blk_lt HS.out.1
    by_cases hjn : j < n
    · have hjl : j < l.length := by omega
      obtain ⟨b, off, rfl, hlt, hc⟩ := (HV.out.2.1.below (by rw [hN]; exact HS.out.2.2.2)).all (by omega)
      have hc1 := hc j (by simpa [strs] using hjl)
      rw [strs_get l j hjl] at hc1
      have hsl := hls _ (List.getElem_mem hjl)
      have htk : l.take (j + 1) = l.take j ++ [l[j]] := List.take_succ_eq_append_getElem hjl
      obtain ⟨s, hs⟩ : ∃ s, l[j] = s := ⟨_, rfl⟩
      rw [hs] at hc1 hsl htk
      have HTK := Lib.hid htk
      clear hc hlt hs htk
      by_cases h1 : s.length < 1
      · have h1' : decide ((s.length : Int) < 1) = true := by simp; omega
        clear h1
        go_wp2_with fail
        go_ret
        exact ⟨_, rfl, rfl, by rw [hN]; exact HS.out.2.2.2⟩
      have h1' : decide ((s.length : Int) < 1) = false := by simp; omega
      by_cases h2 : 100 < s.length
      · have h2' : decide ((100 : Int) < (s.length : Int)) = true := by simp; omega
        clear h1 h2
        go_wp2_with fail
        go_ret
        exact ⟨_, rfl, rfl, by rw [hN]; exact HS.out.2.2.2⟩
      have h2' : decide ((100 : Int) < (s.length : Int)) = false := by simp; omega
      have hgs : Pl.okName s = true := by unfold Pl.okName; simp; omega
      have hs100 : s.length ≤ 100 := by omega
      have hpo := write_st (d := [120]) HN.out (by omega) HS.out.2.1.ok hgs (by simp) (HV.out.1.below (by rw [hN]; exact HS.out.2.2.2))
      have hrn := HS.out.1.range
      have hin := info_stoL (L := stoL (toS st) X (-1)) rfl
      obtain ⟨L5, hL5⟩ : ∃ L, stoL (toS st) X (-1) = L := ⟨_, rfl⟩
      have hl5 : L5.length = 11 := by rw [← hL5]; rfl
      rw [hL5] at hpo hrn hin
      have hd1 : ∀ i, i < 5 → (Pl.partOf s [120] i).length ≤ 65536 := fun i hi => Pl.part_len (Pl.okName_len hgs).2 (by simp) i hi
      have hn' := HN.out.put (D := Pl.partOf s [120]) hgs hd1
      have hw' := HW.out.put HN.out.hon hgs hd1
      rw [← HTK.out] at hw'
      have hk' : ∀ x ∈ l.take (j + 1), Pl.okName x = true := fun x hx => by
        rw [HTK.out] at hx
        rcases List.mem_append.1 hx with hx | hx
        · exact HK.out x hx
        · rw [List.mem_singleton.1 hx]; exact hgs
      obtain ⟨st', hst'⟩ : ∃ s', (Pl.putAll st s (Pl.partOf s [120])).1 = s' := ⟨_, rfl⟩
      rw [hst'] at hpo hn' hw'
      have HP := Lib.hid (And.intro hpo (And.intro hn' (And.intro hw' hk')))
      clear hpo hn' hw' hk' hst' h1 h2 hd1
      go_upto_region 13 with first
        | with_reducible refine wpList_load_mid rfl 33 _ rfl T7 0 rfl L5 _ hrn Tryz.underlying33 rfl hin ?_
        | (with_reducible refine HP.out.1.mono ?_)
      rintro _ w5 ⟨v, rfl, ⟨X5, rfl, hst5⟩, hb5⟩
      clear hrn hin
      obtain ⟨L6, hL6⟩ : ∃ L, stoL (toS st') X5 (-1) = L := ⟨_, rfl⟩
      have hlL6 : L6.length = 11 := by rw [← hL6]; rfl
      have hoL6 : ∀ v ∈ L6, v.oneCell' = true := by rw [← hL6]; exact stoL_one _ _ _
      rw [hL6]
      have hszw5 := hb5.size
      have h7 := HS.out.1.keep hb5
      have hbw := HS.out.2.2.2.trans (hb5.mono (by have := HS.out.2.2.2.size; omega))
      have hz6 : w5.heap[N]? = some (.cells #[y0, y1, y2, y3, y4, y5] 28 (0, 0)) := heap_keep HS.out.2.2.1 hb5
      have hi6' := info_stoA (L := L6) hlL6
      have hT6 : w5.there T7 0 L6.toArray.size := thereL h7 (by rw [List.size_toArray, hlL6]; exact Nat.le_refl 11)
      have hb7 : Below N w (w5.setCells T7 0 L6) := hbw.trans (Lib.below_setCells_w (by omega) L6 0 w5)
      have hz7 : (w5.setCells T7 0 L6).heap[N]? = some (.cells #[y0, y1, y2, y3, y4, y5] 28 (0, 0)) := (World.heap_setCells_other w5 _ _ _ (blk_lt hz6) (by omega)).trans hz6
      have h77 : StBx T7 (toS st') X5 (-1) (w5.setCells T7 0 L6) := by
        unfold StBx
        rw [hL6]
        exact heap_setCells_all (C := stoL (toS st) X (-1)) h7 (by rw [hlL6]; rfl)
      have hst7 : StF N (w5.setCells T7 0 L6) (toS st') X5 := (hst5.weak (by have := HS.out.2.2.2.size; omega)).kpt (h7.kpts L6)
      go_upto_region 13 with first
        | with_reducible refine wpList_store_mid rfl 33 _ _ rfl T7 0 L6.toArray rfl rfl hT6 hi6' (all_oneCell_toArray hoL6) ?_
      obtain ⟨W6, hW6⟩ : ∃ V, w5.setCells T7 0 L6 = V := ⟨_, rfl⟩
      rw [hW6] at hb7 h77 hst7 hz7
      simp only [hW6]
      have HW6 := Lib.hid (And.intro h77 (And.intro hst7 (And.intro hz7 hb7)))
      clear h7 hbw hz6 hi6' hT6 hb7 hz7 h77 hst7 hst5 hb5 hW6
      have HN' := Lib.hid HP.out.2.1
      have HW' := Lib.hid HP.out.2.2.1
      have HK' := Lib.hid HP.out.2.2.2
      clear HP hL5 hl5
      by_cases hm : j % 2 = 1
      case neg =>
        have hm' : Int.tmod (j : Int) 2 = 0 := by rw [Int.tmod_eq_emod_of_nonneg (by omega)]; omega
        have HN2 := Lib.hid (HN'.out.mono (show 2 * j + 1 ≤ 2 * (j + 1) by omega))
        clear hm HS HN HW HK
        go_wp2_with fail
        exact ⟨⟨j + 1, st', X5, by omega, ret_i (by omega), HW6, HN2, HW', HK'⟩, by simp only [intOf]; omega⟩
      have hm' : Int.tmod (j : Int) 2 = 1 := by rw [Int.tmod_eq_emod_of_nonneg (by omega)]; omega
      have hpo := post_st (d := [121]) HN'.out (by omega) HW6.out.2.1.ok hgs (by simp)
      have hrn := HW6.out.1.range
      have hin := info_stoL (L := stoL (toS st') X5 (-1)) rfl
      rw [hL6] at hpo hrn hin
      have hd2 : ∀ i, i < 5 → ([121] : List UInt8).length ≤ 65536 := fun _ _ => by simp
      have hn2 := HN'.out.put (D := fun _ => [121]) hgs hd2
      have hw2 := (HW'.out.put HN'.out.hon (D := fun _ => [121]) hgs hd2).sub (k := l.take (j + 1)) (fun x hx => List.mem_append_left _ hx)
      obtain ⟨st2, hst2⟩ : ∃ s', (Pl.putAll st' s fun _ => [121]).1 = s' := ⟨_, rfl⟩
      rw [hst2] at hpo hn2 hw2
      have HP := Lib.hid (And.intro hpo (And.intro hn2 hw2))
      clear hpo hn2 hw2 hst2 hd2 hm
      go_upto_region 15 with first
        | with_reducible refine wpList_load_mid rfl 33 _ rfl T7 0 rfl L6 _ hrn Tryz.underlying33 rfl hin ?_
        | (with_reducible refine HP.out.1.mono ?_)
      rintro _ w7 ⟨v, rfl, ⟨X7, rfl, hstq⟩, hbq⟩
      clear hrn hin
      obtain ⟨L7, hL7⟩ : ∃ L, stoL (toS st2) X7 (-1) = L := ⟨_, rfl⟩
      have hlL7 : L7.length = 11 := by rw [← hL7]; rfl
      have hoL7 : ∀ v ∈ L7, v.oneCell' = true := by rw [← hL7]; exact stoL_one _ _ _
      rw [hL7]
      have hszw7 := hbq.size
      have h7 := HW6.out.1.keep hbq
      have hbw := HW6.out.2.2.2.trans (hbq.mono (by have := HW6.out.2.2.2.size; omega))
      have hz6 : w7.heap[N]? = some (.cells #[y0, y1, y2, y3, y4, y5] 28 (0, 0)) := heap_keep HW6.out.2.2.1 hbq
      have hi6' := info_stoA (L := L7) hlL7
      have hT6 : w7.there T7 0 L7.toArray.size := thereL h7 (by rw [List.size_toArray, hlL7]; exact Nat.le_refl 11)
      have hb7 : Below N w (w7.setCells T7 0 L7) := hbw.trans (Lib.below_setCells_w (by omega) L7 0 w7)
      have hz7 : (w7.setCells T7 0 L7).heap[N]? = some (.cells #[y0, y1, y2, y3, y4, y5] 28 (0, 0)) := (World.heap_setCells_other w7 _ _ _ (blk_lt hz6) (by omega)).trans hz6
      have h77 : StBx T7 (toS st2) X7 (-1) (w7.setCells T7 0 L7) := by
        unfold StBx
        rw [hL7]
        exact heap_setCells_all (C := stoL (toS st') X5 (-1)) h7 (by rw [hlL7]; rfl)
      have hst7 : StF N (w7.setCells T7 0 L7) (toS st2) X7 := (hstq.weak (by have := HW6.out.2.2.2.size; omega)).kpt (h7.kpts L7)
      go_upto_region 15 with first
        | with_reducible refine wpList_store_mid rfl 33 _ _ rfl T7 0 L7.toArray rfl rfl hT6 hi6' (all_oneCell_toArray hoL7) ?_
      obtain ⟨W7, hW7⟩ : ∃ V, w7.setCells T7 0 L7 = V := ⟨_, rfl⟩
      rw [hW7] at hb7 h77 hst7 hz7
      simp only [hW7]
      have HW7 := Lib.hid (And.intro h77 (And.intro hst7 (And.intro hz7 hb7)))
      clear h7 hbw hz6 hi6' hT6 hb7 hz7 h77 hst7 hstq hbq hW7
      have HN2 := Lib.hid (HP.out.2.1.mono (show 2 * j + 1 + 1 ≤ 2 * (j + 1) by omega))
      have HW2 := Lib.hid HP.out.2.2
      clear HS HN HW HK HP HN' HW' HW6
      go_wp2_with fail
      exact ⟨⟨j + 1, st2, X7, by omega, ret_i (by omega), HW7, HN2, HW2, HK'⟩, by simp only [intOf]; omega⟩
    · have hjn' : j = n := by omega
      subst hjn'
      clear hj hjn
      have htl : l.take j = l := by rw [← hln]; exact List.take_length
      have HKl : Hid (∀ x ∈ l, Pl.okName x = true) := Lib.hid (by rw [← htl]; exact HK.out)
      have HWl : Hid (Pl.Std st l) := Lib.hid (by have := HW.out; rw [htl] at this; exact this)
      clear htl HK HW
      rcases (by omega : nm.length < 1 ∨ (1 ≤ nm.length ∧ 100 < nm.length) ∨ (1 ≤ nm.length ∧ nm.length ≤ 100)) with hg | hg | hg
      case' inl =>
        have hg1' : decide ((1 : Int) ≤ (nm.length : Int)) = false := by simp; omega
        have HW2 : Hid (Pl.Std st (l.filter fun x => decide (x ≠ nm))) := Lib.hid (HWl.out.sub fun x hx => (List.mem_filter.1 hx).1)
        clear HWl hg
        go_upto_region 23 with (fail)
        obtain ⟨V, rfl⟩ : ∃ V, V = wr := ⟨_, rfl⟩
        obtain ⟨st', rfl⟩ : ∃ s, s = st := ⟨_, rfl⟩
        obtain ⟨X5, rfl⟩ : ∃ Y, Y = X := ⟨_, rfl⟩
        have HV2 := HS
        have HN2 := HN
        clear HS HN
      case' inr.inl =>
        have hg1' : decide ((1 : Int) ≤ (nm.length : Int)) = true := by simp; omega
        have hg2' : decide ((nm.length : Int) ≤ 100) = false := by simp; omega
        have HW2 : Hid (Pl.Std st (l.filter fun x => decide (x ≠ nm))) := Lib.hid (HWl.out.sub fun x hx => (List.mem_filter.1 hx).1)
        clear HWl hg
        go_upto_region 23 with (fail)
        obtain ⟨V, rfl⟩ : ∃ V, V = wr := ⟨_, rfl⟩
        obtain ⟨st', rfl⟩ : ∃ s, s = st := ⟨_, rfl⟩
        obtain ⟨X5, rfl⟩ : ∃ Y, Y = X := ⟨_, rfl⟩
        have HV2 := HS
        have HN2 := HN
        clear HS HN
      case' inr.inr =>
        have hg1' : decide ((1 : Int) ≤ (nm.length : Int)) = true := by simp; omega
        have hg2' : decide ((nm.length : Int) ≤ 100) = true := by simp; omega
        have hgn : Pl.okName nm = true := by unfold Pl.okName; simp; omega
        have hdr := drop_st HN.out (by omega) HS.out.2.1.ok hgn
        have hrn := HS.out.1.range
        have hin := info_stoL (L := stoL (toS st) X (-1)) rfl
        obtain ⟨L5, hL5⟩ : ∃ L, stoL (toS st) X (-1) = L := ⟨_, rfl⟩
        have hl5 : L5.length = 11 := by rw [← hL5]; rfl
        rw [hL5] at hdr hrn hin
        have hn' := HN.out.drop (nm := nm) hgn
        have hw' := HWl.out.drop HN.out.hon hgn
        obtain ⟨st', hst'⟩ : ∃ s', (Pl.dropAll st nm).1 = s' := ⟨_, rfl⟩
        rw [hst'] at hdr hn' hw'
        have HP := Lib.hid (And.intro hdr (And.intro hn' hw'))
        clear hdr hn' hw' hst' hg HWl
        go_upto_region 20 with first
          | with_reducible refine wpList_load_mid rfl 33 _ rfl T7 0 rfl L5 _ hrn Tryz.underlying33 rfl hin ?_
          | (with_reducible refine HP.out.1.mono ?_)
        rintro _ w5 ⟨v, rfl, ⟨X5, rfl, hst5⟩, hb5⟩
        clear hrn hin
        obtain ⟨L6, hL6⟩ : ∃ L, stoL (toS st') X5 (-1) = L := ⟨_, rfl⟩
        have hl6 : L6.length = 11 := by rw [← hL6]; rfl
        have ho6 : ∀ v ∈ L6, v.oneCell' = true := by rw [← hL6]; exact stoL_one _ _ _
        rw [hL6]
        have hbt := box_there w5 (L := L6) hl6
        have hbi := info_stoA (L := L6) hl6
        go_upto_region 20 with first
          | with_reducible refine wpList_store_mid rfl 33 _ _ rfl w5.heap.size 0 L6.toArray rfl rfl hbt hbi (all_oneCell_toArray ho6) ?_
        obtain ⟨WB, hW⟩ : ∃ W', boxW w5 L6 = W' := ⟨_, rfl⟩
        have hat := box_at w5 (L := L6) hl6
        have hbl := box_below w5 L6
        rw [hW] at hat hbl
        unfold boxW at hW
        obtain ⟨TA, hT⟩ : ∃ T', w5.heap.size = T' := ⟨_, rfl⟩
        rw [hT] at hW hat hbl
        simp only [hT]
        simp only [hW]
        have hge_TA : w5.heap.size ≤ TA := Nat.le_of_eq hT
        have hle_TA : TA ≤ w5.heap.size := Nat.le_of_eq hT.symm
        clear hW hT hbt hbi
        have hs5' := hb5.size
        have hb6 : Below wr.heap.size wr WB := hb5.trans (hbl.mono (by omega))
        have h7 := HS.out.1.keep hb6
        have hst6 : StF N WB (toS st') X5 := (hst5.kpt (KpT.below (hbl.mono hge_TA))).weak (by omega)
        have hbw : Below N w WB := HS.out.2.2.2.trans (hb6.mono (by omega))
        have hz6 : WB.heap[N]? = some (.cells #[y0, y1, y2, y3, y4, y5] 28 (0, 0)) := heap_keep HS.out.2.2.1 (hb6.mono (by omega))
        have hr6 : WB.rangeAt TA 0 L6 := rangeL hat
        have hi6 := info_stoL (L := L6) hl6
        have hi6' := info_stoA (L := L6) hl6
        have hT6 : WB.there T7 0 L6.toArray.size := thereL h7 (by rw [List.size_toArray, hl6]; exact Nat.le_refl 11)
        have hb7 : Below N w (WB.setCells T7 0 L6) := hbw.trans (Lib.below_setCells_w (by omega) L6 0 WB)
        have hz7 : (WB.setCells T7 0 L6).heap[N]? = some (.cells #[y0, y1, y2, y3, y4, y5] 28 (0, 0)) := (World.heap_setCells_other WB _ _ _ (blk_lt hz6) (by omega)).trans hz6
        have h77 : StBx T7 (toS st') X5 (-1) (WB.setCells T7 0 L6) := by
          unfold StBx
          rw [hL6]
          exact heap_setCells_all (C := stoL (toS st) X (-1)) h7 (by rw [hl6]; rfl)
        have hst7 : StF N (WB.setCells T7 0 L6) (toS st') X5 := hst6.kpt (h7.kpts L6)
        go_upto_region 23 with first
          | with_reducible refine wpList_load_mid rfl 33 _ rfl TA 0 rfl L6 _ hr6 Tryz.underlying33 rfl hi6 ?_
          | with_reducible refine wpList_store_mid rfl 33 _ _ rfl T7 0 L6.toArray rfl rfl hT6 hi6' (all_oneCell_toArray ho6) ?_
        obtain ⟨V, hV⟩ : ∃ V, WB.setCells T7 0 L6 = V := ⟨_, rfl⟩
        rw [hV] at hb7 h77 hst7 hz7
        simp only [hV]
        have HV2 := Lib.hid (And.intro h77 (And.intro hst7 (And.intro hz7 hb7)))
        have HN2 : Hid (Hn st' (2 * j)) := Lib.hid HP.out.2.1
        have HW2 := Lib.hid HP.out.2.2
        clear hat hbl hb5 hst5 hL6 hb6 h7 hst6 hbw hz6 hr6 hi6 hi6' hT6 hb7 hz7 h77 hst7 HP hV HN HS hL5 hl5
      all_goals
        have hsv := HV2.out.2.2.2.size
        have hbe := HQ.out.2.1 (toS st') X5 (-1) V (HV.out.2.2.below (by rw [hN]; exact HV2.out.2.2.2))
        have hr7 := HV2.out.1.range
        have hi7 := info_stoL (L := stoL (toS st') X5 (-1)) rfl
        obtain ⟨L7, hL7⟩ : ∃ L, stoL (toS st') X5 (-1) = L := ⟨_, rfl⟩
        obtain ⟨L8, hL8⟩ : ∃ L, stoL (bendS q (toS st')) (bendX q X5) (-1) = L := ⟨_, rfl⟩
        rw [hL7] at hbe hr7 hi7
        rw [hL8] at hbe
        have HX := Lib.hid hbe
        have z0 : V.cell? ⟨N, 0, none⟩ = some y0 := by rw [cell_row V N 0 _ _ HV2.out.2.2.1]; rfl
        have z1 : V.cell? ⟨N, 1, none⟩ = some y1 := by rw [cell_row V N 1 _ _ HV2.out.2.2.1]; rfl
        have z2 : V.cell? ⟨N, 2, none⟩ = some y2 := by rw [cell_row V N 2 _ _ HV2.out.2.2.1]; rfl
        have z3 : V.cell? ⟨N, 3, none⟩ = some y3 := by rw [cell_row V N 3 _ _ HV2.out.2.2.1]; rfl
        have z4 : V.cell? ⟨N, 4, none⟩ = some y4 := by rw [cell_row V N 4 _ _ HV2.out.2.2.1]; rfl
        have z5 : V.cell? ⟨N, 5, none⟩ = some y5 := by rw [cell_row V N 5 _ _ HV2.out.2.2.1]; rfl
        clear hbe hL7
        go_upto_region 24 with first
          | with_reducible refine wpList_load_mid rfl 33 _ rfl T7 0 rfl L7 _ hr7 Tryz.underlying33 rfl hi7 ?_
          | (with_reducible refine HX.out.mono ?_)
        rintro _ w5 ⟨v, rfl, rfl, hb5⟩
        have hbw5 : Below N w w5 := HV2.out.2.2.2.trans (hb5.mono (by omega))
        obtain ⟨Q, hQ1, hQ2, hQ3, hQ4, hQ5⟩ := names_lied HN2.out (by omega) HW2.out (HV2.out.2.1.ok.below hb5) (HV.out.2.2.below (by rw [hN]; exact hbw5))
        rw [hL8] at hQ5
        have HNM := Lib.hid hQ5
        have HB5 := Lib.hid hbw5
        have HQQ := Lib.hid (And.intro hQ1 (And.intro hQ2 (And.intro hQ3 hQ4)))
        have hs5' := hb5.size
        clear hr7 hi7 z0 z1 z2 z3 z4 z5 hb5 hbw5 hQ1 hQ2 hQ3 hQ4 hQ5 HX hL8
        go_upto_region 24 with (with_reducible refine HNM.out.mono ?_)
        rintro _ w6 ⟨v, rfl, ⟨L9, A9, c9, rfl, hl9, ho9, hsl⟩, hb6⟩
        have hbt := box_there w6 (L := L9) hl9
        have hbi := info_stoA (L := L9) hl9
        go_upto_region 24 with first
          | with_reducible refine wpList_store_mid rfl 33 _ _ rfl w6.heap.size 0 L9.toArray rfl rfl hbt hbi (all_oneCell_toArray ho9) ?_
        obtain ⟨W7, hW⟩ : ∃ W', boxW w6 L9 = W' := ⟨_, rfl⟩
        have hat := box_at w6 (L := L9) hl9
        have hbl := box_below w6 L9
        rw [hW] at hat hbl
        unfold boxW at hW
        obtain ⟨TC, hT⟩ : ∃ T', w6.heap.size = T' := ⟨_, rfl⟩
        rw [hT] at hW hat hbl
        simp only [hT]
        simp only [hW]
        have hge_TC : w6.heap.size ≤ TC := Nat.le_of_eq hT
        have hle_TC : TC ≤ w6.heap.size := Nat.le_of_eq hT.symm
        clear hW hT hbt hbi
        have hbw7 : Below N w W7 := HB5.out.trans ((hb6.trans (hbl.mono (by have := hb6.size; omega))).mono (by omega))
        have hslV := hsl.below (hbl.mono hge_TC)
        have HB7 := Lib.hid hbw7
        clear hat hbl hb6 hsl hl9 ho9 hbw7
        have hmm := @run_makeMap Tryz.prog
        have hmm1 := SetT.made W7
        go_wp2_with fail
        obtain ⟨M, hMM⟩ : ∃ m, W7.heap.size = m := ⟨_, rfl⟩
        have hbM : Below M W7 (W7.alloc (.map #[] 0)) := (Below.refl _ _).alloc (Nat.le_of_eq hMM.symm) _
        obtain ⟨VM, hVM⟩ : ∃ V, W7.alloc (.map #[] 0) = V := ⟨_, rfl⟩
        simp only [hMM]
        rw [hMM, hVM] at hmm1
        rw [hVM] at hbM ⊢
        have hql := HQQ.out.2.2.2
        have hsw := HB7.out.size
        have HM := Lib.hid (And.intro hmm1 (And.intro hbM (And.intro hMM hslV)))
        clear hmm hmm1 hbM hVM hslV
        go_loopw [107] (fun iv wr => ∃ (k : Nat) (Y : List (List UInt8)) (z : Nat), k ≤ Q.length ∧ iv = .int .i64 (k : Int) ∧ z ≤ k ∧ Hid (SetT wr M Y z ∧ Below M W7 wr) ∧ Hid (∀ x ∈ Q.take k, x ∈ Y)) (fun iv _ => Q.length - (intOf iv).toNat)
        case atStart => exact ⟨0, [], 0, by omega, rfl, Nat.le_refl _, Lib.hid (And.intro HM.out.1 HM.out.2.1), Lib.hid (by simp)⟩
        case round =>
          obtain ⟨k, Y, z, hk, rfl, hzk, HY, HI⟩ := hrel
          have hM3 : W7.heap.size = M := HM.out.2.2.1
          by_cases hkj : k < Q.length
          · obtain ⟨b, off, rfl, hlt, hc⟩ := (HM.out.2.2.2.below (by rw [hM3]; exact HY.out.2)).1.all (by omega)
            have hc1 := hc k (by simpa [strs] using hkj)
            rw [strs_get Q k hkj] at hc1
            have hs1 := HQQ.out.2.2.1 _ (List.getElem_mem hkj)
            have htk : Q.take (k + 1) = Q.take k ++ [Q[k]] := List.take_succ_eq_append_getElem hkj
            have hcm : ∀ m, m + 1 = k → ∃ t, wr.cell? ⟨b, off + m, none⟩ = some (.string ⟨t.toArray⟩) ∧ Op.bytesLess t Q[k] = true := fun m hm => by
              have hc0 := hc m (by simp [strs]; omega)
              rw [strs_get Q m (by omega)] at hc0
              exact ⟨_, hc0, List.pairwise_iff_getElem.1 HQQ.out.1 m k (by omega) hkj (by omega)⟩
            obtain ⟨s, hs⟩ : ∃ s, Q[k] = s := ⟨_, rfl⟩
            rw [hs] at hc1 hs1 htk hcm
            have HI' : Hid (∀ x ∈ Q.take (k + 1), x ∈ (if s ∈ Y then Y else s :: Y)) := Lib.hid fun x hx => by
              rw [htk] at hx
              rcases List.mem_append.1 hx with hx | hx
              · split
                · exact HI.out x hx
                · exact List.mem_cons_of_mem _ (HI.out x hx)
              · rw [List.mem_singleton.1 hx]
                split
                · assumption
                · exact List.mem_cons_self
            obtain ⟨W1, hput, hY1, hg1⟩ := HY.out.1.put (q := s) (by omega) (by omega)
            have HY1 := Lib.hid (And.intro hY1 (HY.out.2.grown hg1 (by have := HY.out.2.size; omega) (fun i e => by cases e; exact Nat.le_refl _)))
            clear hc hlt hs htk hY1 hg1
            by_cases hk0 : k = 0
            · have hk1 : decide ((0 : Int) < (k : Int)) = false := by simp; omega
              have hk2 : decide (0 < k) = false := by simp; omega
              clear hcm hk0
              go_wp2_with fail
              exact ⟨⟨k + 1, _, z + 1, by omega, ret_i (by omega), by omega, HY1, HI'⟩, by simp only [intOf]; omega⟩
            obtain ⟨m, hm⟩ : ∃ m, m + 1 = k := ⟨k - 1, by omega⟩
            obtain ⟨t, ht, htl⟩ := hcm m hm
            have hm1 : ((k : Int) - 1) = (m : Int) := by omega
            have hk1 : decide ((0 : Int) < (k : Int)) = true := by simp; omega
            have hk2 : decide (0 < k) = true := by simp; omega
            clear hcm hk0 hm
            go_wp2_with fail
            exact ⟨⟨k + 1, _, z + 1, by omega, ret_i (by omega), by omega, HY1, HI'⟩, by simp only [intOf]; omega⟩
          · obtain rfl : k = Q.length := by omega
            have hI := HI.out
            rw [List.take_length] at hI
            have HI2 := Lib.hid hI
            have HBZ := Lib.hid (show Below N w wr from HB7.out.trans (HY.out.2.mono (by omega)))
            clear hI hk hkj
            go_wp2_with fail
            go_loopw [128] (fun iv wq => ∃ (i : Nat), i ≤ j ∧ iv = .int .i64 (i : Int) ∧ wq = wr) (fun iv _ => j - (intOf iv).toNat)
            case atStart => exact ⟨0, Nat.zero_le _, rfl, rfl⟩
            case round =>
              obtain ⟨i, hi, rfl, rfl⟩ := hrel
              by_cases hij : i < j
              · have hil : i < l.length := by omega
                obtain ⟨b, off, rfl, hlt, hc⟩ := (HV.out.2.1.below (by rw [hN]; exact HBZ.out)).all (by omega)
                have hc1 := hc i (by simpa [strs] using hil)
                rw [strs_get l i hil] at hc1
                have hsm := List.getElem_mem hil
                obtain ⟨s, hs⟩ : ∃ s, l[i] = s := ⟨_, rfl⟩
                rw [hs] at hc1 hsm
                have hsl := (Pl.okName_len (HKl.out s hsm)).2
                clear hc hlt hs
                by_cases hsn : (s == nm) = true
                · go_wp2_with fail
                  exact ⟨⟨i + 1, by omega, ret_i (by omega), by trivial⟩, by simp only [intOf]; omega⟩
                have hsn' : (s == nm) = false := by simpa using hsn
                have hne : s ≠ nm := fun e => hsn (by rw [e]; exact beq_self_eq_true nm)
                have hx := HI2.out s (HQQ.out.2.1 s (by rw [List.mem_filter]; exact ⟨hsm, by simp [hne]⟩))
                have hlo := HY.out.1.look (q := s) (by omega)
                rw [decide_eq_true hx] at hlo
                clear hx hsm hsn hne
                go_wp2_with fail
                exact ⟨⟨i + 1, by omega, ret_i (by omega), by trivial⟩, by simp only [intOf]; omega⟩
              · obtain rfl : i = j := by omega
                go_wp2_with fail
                go_ret
                exact ⟨_, rfl, rfl, by rw [hN]; exact HBZ.out⟩
-- FRAME
set_option maxRecDepth 100000 in
theorem spreadNames_lifted (os : Os) (started : os.Started) (H : Type) (enc : TypeId × Value → H) :
    ReturnsInHanded {} Tryz.checked os 7 .any (fun w args => (Rows.spreadNamesSpec.pre enc Tryz.prog Tryz.f7 [] false w args ∧ laidMetH Tryz.prog tabsW w) ∧ sizedMet enc Tryz.prog Tryz.f7 (OpenSpec.ofChange Rows.spreadNamesSpec) false w args) (Rows.spreadNamesSpec.post enc Tryz.prog Tryz.f7 false true false false) := by
  refine returnsInHanded_of_change_and (C := Tryz.checked) (X := fun w _ => laidMetH Tryz.prog tabsW w) (fun _ _ _ hh h => h.of_heap hh) own started (by kernel_rfl) Tryz.func7
    (ChangeSpec.witness_shaped (enc := enc) (C := Tryz.checked) (os := os) (X := fun w _ => laidMetH Tryz.prog tabsW w) false (World.doorLaid Tryz.prog 100 os) #[.slice none 0 0, .string ⟨#[]⟩, .agg #[.int .u8 0, .int .u8 0, .slice none 0 0, .slice none 0 0, .slice none 0 0, .slice none 0 0]] 8 rfl (World.shaped_of_RefB (by kernel_rfl) (by kernel_rfl)) (by kernel_rfl) (by kernel_rfl) (by kernel_rfl) (door_metW os _)) ?_
  intro W base args ds gs before hval0 hW hcnd hsz0 hL _
  have hvars := vnum_ofW hL
  have hval : ∀ (j : Nat) t v, Tryz.f7.params[j]? = some t → args[j]? = some v → Value.okWide Tryz.prog W .any base t v := hval0
  have hW' := hW
  obtain ⟨p, q, hA0, hV, rfl, hfz, hnd⟩ := hW
  have hA : DataW.TrodAll enc Tryz.prog W 0 (fun _ => true) true Tryz.f7.params.toList args.toList ds p := hA0
  have hsz : (DataW.weightsEach Tryz.prog (Tryz.f7.params.toList ++ Rows.spreadNamesSpec.plain.varTypes Tryz.prog) (ds ++ gs)).all (· ≤ reachBytes) = true := hsz0
  rw [Tryz.params7] at hA hval hsz
  obtain ⟨v0, vs0, d0, ds0, p0, q0, hargs, rfl, rfl, h0, r0⟩ := trodAll_cons hA
  obtain ⟨v1, vs1, d1, ds1, p1, q1, rfl, rfl, rfl, h1, r1⟩ := trodAll_cons r0
  obtain ⟨v2, vs2, d2, ds2, p2, q2, rfl, rfl, rfl, h2, r2⟩ := trodAll_cons r1
  obtain ⟨rfl, rfl, rfl⟩ := trodAll_nil r2
  obtain rfl : args = #[v0, v1, v2] := by cases args; simp_all
  obtain ⟨rfl, rfl⟩ := trodVars_none hV
  have k0 := h0
  have lt0 : ∀ x ∈ p0, x.block < W.heap.size := by obtain ⟨m, hm⟩ := k0; exact DataW.trod_lt m _ _ _ hm
  have hz0 : ∀ m ∈ d0.weights Tryz.prog 22, m ≤ reachBytes := fun m hm => by
    have h1 := List.all_eq_true.1 hsz m (DataW.weights_mem_each (j := 0) rfl rfl m hm)
    simpa using h1
  obtain ⟨A0, n0, c0, l0, rfl, eA0, eB0, eC0, eD0, eE0, eF0⟩ := open_strs (hval 0 22 v0 rfl rfl) h0 hz0
  have k1 := h1
  have lt1 : ∀ x ∈ p1, x.block < W.heap.size := by obtain ⟨m, hm⟩ := k1; exact DataW.trod_lt m _ _ _ hm
  have hz1 : ∀ m ∈ d1.weights Tryz.prog 9, m ≤ reachBytes := fun m hm => by
    have h1 := List.all_eq_true.1 hsz m (DataW.weights_mem_each (j := 1) rfl rfl m hm)
    simpa using h1
  obtain ⟨l1, rfl, eA1⟩ := open_str (hval 1 9 v1 rfl rfl) h1 hz1
  have k2 := h2
  have lt2 : ∀ x ∈ p2, x.block < W.heap.size := by obtain ⟨m, hm⟩ := k2; exact DataW.trod_lt m _ _ _ hm
  have hz2 : ∀ m ∈ d2.weights Tryz.prog 28, m ≤ reachBytes := fun m hm => by
    have h1 := List.all_eq_true.1 hsz m (DataW.weights_mem_each (j := 2) rfl rfl m hm)
    simpa using h1
  obtain ⟨q2, rfl, eA2⟩ := open_lies (hval 2 28 v2 rfl rfl) h2 hz2
  clear hA0 hval0 hsz0
  refine (spreadNames_walk A0 n0 c0 l0 l1 q2 W eA0 (Nat.le_trans eD0 reach_le) (fun s hs => Nat.le_trans (eE0 s hs) reach_le) eF0 (Nat.le_trans eA1 reach_le) eA2 hvars).mono fun e W' ⟨v, he, hv, bel⟩ => ?_
  subst he hv
  exact ⟨_, rfl, _, _, _, [], _, [], hW', trodAll_mk1 (shut_bool Tryz.underlying4 _), (trodAll_cons_mk (Below.trod laidOut (by kernel_rfl) (of_decide_eq_true (by kernel_rfl)) k0 bel lt0) (trodAll_cons_mk (Below.trod laidOut (by kernel_rfl) (of_decide_eq_true (by kernel_rfl)) k1 bel lt1) (trodAll_cons_mk (Below.trod laidOut (by kernel_rfl) (of_decide_eq_true (by kernel_rfl)) k2 bel lt2) trodAll_mk0))), rfl, bel.frame _, fun h => by cases h⟩

theorem spreadNames_row : Rows.SpreadNamesSaid :=
  OpenClaim.holds_of_wide 7 Tryz.f7 rfl rfl rfl rfl rfl rfl rfl ⟨rfl, rfl, rfl, rfl, rfl⟩ rfl rfl rfl rfl rfl (by kernel_rfl) Tryz.func7 (by kernel_rfl)
    (of_decide_eq_true (by kernel_rfl)) (by unfold Func.isWrapper; first | (rw [if_pos (by decide +kernel)]; kernel_rfl) | (rw [if_neg (by decide +kernel)]; exact ⟨rfl, rfl⟩))
    (fun os started H enc _ => spreadNames_lifted os started H enc)

theorem spreadNames_holds : Rows.SpreadNamesCardSaid :=
  Claim7.holds_tied_plain_at .later [] [.data, .data, .data, .data, .data, .sentinel, .sentinel] true (true, "0b7c186e8d0c8ec5dbd714917fda1c1a9863461abdd35648811154aebd693e09") true
    spreadNames_row (fun _ h => by cases h) (by kernel_rfl) (fun _ h => by cases h) spreadNames_row_tie rfl ⟨rfl, rfl⟩ (by kernel_rfl) rfl
    (fun f fn hf hfn => by
      obtain rfl : f = 7 := Option.some.inj ((show Tryz.prog.funcNamed "hibernacle/hibernaclelaw37.SpreadNames" = some 7 by kernel_rfl).symm.trans hf) |>.symm
      obtain rfl : fn = Tryz.f7 := (Option.some.inj (Tryz.func7.symm.trans hfn)).symm
      exact ⟨by kernel_rfl, fun j t ht => by
        rw [Tryz.params7] at ht
        rcases j with _ | _ | _ | _ | j
        all_goals first
          | (simp at ht; done)
          | (have h3 := Option.some.inj ht; subst h3; exact (show Tryz.prog.wantsStandIn _ = false by kernel_rfl))⟩)
    (by kernel_rfl)
#print axioms spreadNames_holds
end Go.Proofs.YtdnebgilkfafhaaGreatDoor
