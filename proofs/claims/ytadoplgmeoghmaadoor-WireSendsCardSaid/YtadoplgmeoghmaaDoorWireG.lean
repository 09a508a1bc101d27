/- The walk of wire's Get: the message of bytes. -/
import Derived.Test.YtadoplgmeoghmaaDoorWireR
namespace Go.Proofs.YtadoplgmeoghmaaDoor
open Go.RowKit
set_option linter.unusedVariables false
set_option linter.unusedSimpArgs false
attribute [local go_sem] ba_get ba_cut ba_add
theorem name_64 {t : List UInt8} (h : Pl.okN t = true) : t.length = 64 := by
  unfold Pl.okN Pl.hashOf at h
  split at h
  · assumption
  · cases h
theorem fit_of_chk {s : Pl.Snap} (h : Pl.mchk s = 0) : SnFit s := by
  have hc := Pl.chkOk_of h
  have h1 := Pl.machine_len_le hc.m
  have hl := hc.l
  have g : ∀ l : List (List UInt8), l.all Pl.okN = true → ∀ t ∈ l, t.length ≤ 140737488355328 := fun l ha t ht => by
    have := name_64 (List.all_eq_true.1 ha t ht); omega
  exact ⟨by omega, g _ hc.c0, g _ hc.c1, g _ hc.c2, by omega, by omega, by omega⟩
theorem fit_mof (y : List UInt8) : SnFit (Pl.mof y).1 := by
  rcases Pl.mof_case y with ⟨s, h1, h2, h3⟩ | ⟨e, h1, h2⟩
  · rw [h1]; exact fit_of_chk h2
  · rw [h1]; exact fit_zero
theorem readM_fit {k : Int} {y : List UInt8} {m : Pl.Msg} (hy : y.length ≤ 140737488355328) (h : Pl.readM k y = some m) : MgFit m := by
  have z : ([] : List UInt8).length ≤ 140737488355328 := by simp
  unfold Pl.readM at h
  split at h
  · injection h with h; subst h; exact ⟨hy, fit_zero⟩
  split at h
  · split at h
    · injection h with h; subst h; exact ⟨z, fit_mof y⟩
    · cases h
  split at h
  · cases hq : Pl.intQ y with
    | none => rw [hq] at h; cases h
    | some n => rw [hq] at h; injection h with h; subst h; exact ⟨z, fit_zero⟩
  split at h
  · cases hq : Pl.intQ y with
    | none => rw [hq] at h; cases h
    | some n => rw [hq] at h; injection h with h; subst h; exact ⟨z, fit_zero⟩
  · injection h with h; subst h; exact ⟨z, fit_zero⟩
/-- What a message of bytes has in it. -/
theorem wget_fit (b : List UInt8) (hb : b.length ≤ 140737488355) : Pl.MOk (Pl.wget b).1 ∧ MgFit (Pl.wget b).1 := by
  have z : Pl.MOk Pl.zeroM ∧ MgFit Pl.zeroM := ⟨Pl.zeroM_ok, by decide, fit_zero⟩
  obtain ⟨⟨l, e⟩, ht⟩ : ∃ x, Pl.texts b = x := ⟨_, rfl⟩
  by_cases he : e = 0
  · subst he
    rw [Pl.wget_ok ht]
    unfold Pl.wgetL
    split
    · next h2 =>
      have hmem := fun t ht => text_le (l := l) t ht
      rw [Pl.rowB_texts b l ht] at hmem
      obtain ⟨x0, x1, rfl⟩ : ∃ x0 x1, l = [x0, x1] := by
        match l, h2 with
        | [x0, x1], _ => exact ⟨x0, x1, rfl⟩
      have h1 : x1.length ≤ b.length := hmem x1 (by simp)
      show Pl.MOk (Pl.wgetQ b x1 (Pl.intQ x0)).1 ∧ MgFit (Pl.wgetQ b x1 (Pl.intQ x0)).1
      cases hq : Pl.intQ x0 with
      | none => exact z
      | some k =>
        unfold Pl.wgetQ
        simp only
        split
        · next hk =>
          cases hO : Pl.readM k x1 with
          | none => exact z
          | some m =>
            rcases Pl.endM_or b (some m) with ⟨m', h1', h2', -⟩ | h
            · injection h1' with h1'
              subst h1'
              rw [h2']
              exact ⟨(Pl.readM_ok hk hO).1, readM_fit (by omega) hO⟩
            · rw [h]; exact z
        · exact z
    · exact z
  · rw [Pl.wget_no ht he]; exact z
def GetOut (b : List UInt8) (v : Value) (w' : World) : Prop := ∃ X, v = .tuple #[.agg (mgL (Pl.wget b).1 X).toArray, .int .i64 ((Pl.wget b).2 : Int)] ∧ SnOk w' (Pl.wget b).1.snap X
set_option maxRecDepth 100000 in
set_option maxHeartbeats 8000000 in
theorem wget_any (b : List UInt8) (w : World) (hs : b.length ≤ 140737488355) (hv : VNum w) : Calls Tryd.prog 9 #[.string ⟨b.toArray⟩] w (RetB (GetOut b) w) := by
  obtain ⟨l, e, hl⟩ : ∃ l e, Pl.texts b = (l, e) := ⟨_, _, rfl⟩
  have htx := fun W => texts_at b l e hl W (by omega)
  have HT := Lib.hid (And.intro htx (And.intro hl hs)); clear htx hl
  have HV := Lib.hid hv; clear hv
  obtain ⟨LZ, hLZ⟩ : ∃ L, mgL Pl.zeroM cx0 = L := ⟨_, rfl⟩
  have HL := Lib.hid hLZ
  have hlz : LZ.toArray.size = 45 := by rw [List.size_toArray, ← hLZ]; rfl
  have HZ := Lib.hid (And.intro (show (Tryd.prog.info? 34).map (·.size) = some LZ.toArray.size by rw [hlz]; exact info_msg) (And.intro (show LZ.toArray.all (·.oneCell') = true by rw [← hLZ]; exact mgL_one _ _) hlz)); clear hlz hLZ
  go_enter Tryd.func9, Tryd.ntmps9
  go_upto_region 1 with (fail)
  generalize hV : w.alloc _ = V
  have hR : ∃ C : Array Value, C.size = 45 ∧ V.heap[w.heap.size]? = some (.cells C 34 (0, 0)) := ⟨_, rfl, by rw [← hV]; exact heap_alloc_new w _⟩
  obtain ⟨C, hC, hR⟩ := hR
  have HC := Lib.hid hC
  have hbV : Below w.heap.size w V := by rw [← hV]; exact (Below.refl _ _).alloc (Nat.le_refl _) _
  clear hV hC
  go_wp2_with fail
  (with_reducible refine (HT.out.1 _).mono ?_)
  rintro en w1 ⟨A, c, rfl, hr1, -, hb1⟩
  have hR1 := (hb1.block w.heap.size (blk_lt hR)).trans hR
  have hd1 : Below w.heap.size w w1 := hbV.trans (hb1.mono hbV.size)
  have HR1 := Lib.hid hR1
  have HD1 := Lib.hid hd1
  clear hb1 hbV hR hR1 hd1
  by_cases he : e ≠ 0
  · have hne : ((e : Int) == 0) = false := by rw [beq_eq_false_iff_ne]; omega
    have hne' : ((e : Int) != 0) = true := by unfold bne; rw [hne]; rfl
    have HB := Lib.hid (show Pl.wget b = (Pl.zeroM, 3) by exact Pl.wget_no HT.out.2.1 he)
    have hth : w1.there w.heap.size 0 LZ.toArray.size := there_row HR1.out (by rw [HC.out, HZ.out.2.2]; exact Nat.le_refl _)
    have hbz := (HD1.out).trans (Lib.below_setCells_w (B := w.heap.size) (g := w.heap.size) (Nat.le_refl _) LZ.toArray.toList 0 w1)
    have HBZ := Lib.hid hbz; clear hbz
    go_wp2_with (first
      | (with_reducible refine wpList_build_m0 HL.out rfl rfl ?_)
      | (with_reducible refine wpList_store_mid rfl 34 _ _ rfl w.heap.size 0 LZ.toArray rfl rfl hth HZ.out.1 HZ.out.2.1 ?_))
    refine bodyPost_ret (results_cell2 (cs := LZ) rfl rfl (World.rangeAt_setCells_same _ _ _ _ (by simpa using hth)) Tryd.underlying34 rfl (by have := HZ.out.1; simpa using this)) rfl ?_
    exact ⟨_, rfl, ⟨cx0, by rw [HB.out, ← HL.out]; rfl, by rw [HB.out]; exact ok_zero _⟩, HBZ.out⟩
  obtain rfl : e = 0 := by omega
  clear he
  have HM := Lib.hid (Pl.wget_ok HT.out.2.1)
  by_cases h2 : l.length = 2
  rotate_left
  · have hne : ((l.length : Int) == 2) = false := by rw [beq_eq_false_iff_ne]; omega
    have hne' : ((l.length : Int) != 2) = true := by unfold bne; rw [hne]; rfl
    have HB := Lib.hid (show Pl.wget b = (Pl.zeroM, 3) by rw [HM.out]; exact Pl.wgetL_len h2)
    have hth : w1.there w.heap.size 0 LZ.toArray.size := there_row HR1.out (by rw [HC.out, HZ.out.2.2]; exact Nat.le_refl _)
    have hbz := (HD1.out).trans (Lib.below_setCells_w (B := w.heap.size) (g := w.heap.size) (Nat.le_refl _) LZ.toArray.toList 0 w1)
    have HBZ := Lib.hid hbz; clear hbz
    go_wp2_with (first
      | (with_reducible refine wpList_build_m0 HL.out rfl rfl ?_)
      | (with_reducible refine wpList_store_mid rfl 34 _ _ rfl w.heap.size 0 LZ.toArray rfl rfl hth HZ.out.1 HZ.out.2.1 ?_))
    refine bodyPost_ret (results_cell2 (cs := LZ) rfl rfl (World.rangeAt_setCells_same _ _ _ _ (by simpa using hth)) Tryd.underlying34 rfl (by have := HZ.out.1; simpa using this)) rfl ?_
    exact ⟨_, rfl, ⟨cx0, by rw [HB.out, ← HL.out]; rfl, by rw [HB.out]; exact ok_zero _⟩, HBZ.out⟩
  have hmem := fun t ht => text_le (l := l) t ht
  rw [Pl.rowB_texts b l HT.out.2.1] at hmem
  obtain ⟨x0, x1, rfl⟩ : ∃ x0 x1, l = [x0, x1] := by
    match l, h2 with
    | [x0, x1], _ => exact ⟨x0, x1, rfl⟩
  obtain ⟨b1, o1, rfl, hbw, hc⟩ := hr1.all (by simp)
  have c0 : w1.cell? ⟨b1, o1, none⟩ = some (.string ⟨x0.toArray⟩) := hc 0 (by simp [strs])
  have c1 : w1.cell? ⟨b1, o1 + 1, none⟩ = some (.string ⟨x1.toArray⟩) := hc 1 (by simp [strs])
  have HX := Lib.hid (And.intro (show x0.length ≤ b.length from hmem x0 (by simp)) (And.intro (show x1.length ≤ b.length from hmem x1 (by simp)) (And.intro c1 hbw)))
  clear hc hr1 h2 hmem c1 hbw
  have hint := fun W h => int_any x0 W (by have := HX.out.1; have := HT.out.2.2; omega) h
  obtain ⟨q, hq⟩ : ∃ q, Pl.intQ x0 = q := ⟨_, rfl⟩
  rw [hq] at hint
  have HQ := Lib.hid (And.intro hint (show Pl.wget b = Pl.wgetQ b x1 q by rw [HM.out, ← hq]; rfl)); clear hint hq
  go_wp2_with fail
  (with_reducible refine (HQ.out.1 _ (HV.out.keep HD1.out (Nat.le_refl _))).mono ?_)
  rintro en w2 ⟨v, rfl, rfl, hb2⟩
  have hR2 := (hb2.block _ (blk_lt HR1.out)).trans HR1.out
  have hd2 := HD1.out.trans (hb2.mono HD1.out.size)
  have HR2 := Lib.hid hR2
  have HD2 := Lib.hid hd2
  have c1 : w2.cell? ⟨b1, o1 + 1, none⟩ = some (.string ⟨x1.toArray⟩) := (hb2.cell (p := ⟨b1, o1 + 1, none⟩) HX.out.2.2.2).trans HX.out.2.2.1
  clear hR2 hd2 hb2 c0
  unfold intV
  cases q with
  | none =>
    have HB := Lib.hid (show Pl.wget b = (Pl.zeroM, 3) by exact HQ.out.2)
    have hth : w2.there w.heap.size 0 LZ.toArray.size := there_row HR2.out (by rw [HC.out, HZ.out.2.2]; exact Nat.le_refl _)
    have hbz := (HD2.out).trans (Lib.below_setCells_w (B := w.heap.size) (g := w.heap.size) (Nat.le_refl _) LZ.toArray.toList 0 w2)
    have HBZ := Lib.hid hbz; clear hbz
    go_wp2_with (first
      | (with_reducible refine wpList_build_m0 HL.out rfl rfl ?_)
      | (with_reducible refine wpList_store_mid rfl 34 _ _ rfl w.heap.size 0 LZ.toArray rfl rfl hth HZ.out.1 HZ.out.2.1 ?_))
    refine bodyPost_ret (results_cell2 (cs := LZ) rfl rfl (World.rangeAt_setCells_same _ _ _ _ (by simpa using hth)) Tryd.underlying34 rfl (by have := HZ.out.1; simpa using this)) rfl ?_
    exact ⟨_, rfl, ⟨cx0, by rw [HB.out, ← HL.out]; rfl, by rw [HB.out]; exact ok_zero _⟩, HBZ.out⟩
  | some k =>
    have HK := Lib.hid (show Pl.wget b = if 1 ≤ k ∧ k ≤ 6 then Pl.endM b (Pl.readM k x1) else (Pl.zeroM, 3) from HQ.out.2)
    by_cases k1 : k < 1
    · have hd : decide (k < 1) = true := decide_eq_true k1
      have HB := Lib.hid (show Pl.wget b = (Pl.zeroM, 3) by rw [HK.out, if_neg (by omega)])
      have hth : w2.there w.heap.size 0 LZ.toArray.size := there_row HR2.out (by rw [HC.out, HZ.out.2.2]; exact Nat.le_refl _)
      have hbz := (HD2.out).trans (Lib.below_setCells_w (B := w.heap.size) (g := w.heap.size) (Nat.le_refl _) LZ.toArray.toList 0 w2)
      have HBZ := Lib.hid hbz; clear hbz
      go_wp2_with (first
        | (with_reducible refine wpList_build_m0 HL.out rfl rfl ?_)
        | (with_reducible refine wpList_store_mid rfl 34 _ _ rfl w.heap.size 0 LZ.toArray rfl rfl hth HZ.out.1 HZ.out.2.1 ?_))
      refine bodyPost_ret (results_cell2 (cs := LZ) rfl rfl (World.rangeAt_setCells_same _ _ _ _ (by simpa using hth)) Tryd.underlying34 rfl (by have := HZ.out.1; simpa using this)) rfl ?_
      exact ⟨_, rfl, ⟨cx0, by rw [HB.out, ← HL.out]; rfl, by rw [HB.out]; exact ok_zero _⟩, HBZ.out⟩
    have hd1' : decide (k < 1) = false := decide_eq_false k1
    by_cases k6 : 6 < k
    · have hd : decide (6 < k) = true := decide_eq_true k6
      have HB := Lib.hid (show Pl.wget b = (Pl.zeroM, 3) by rw [HK.out, if_neg (by omega)])
      have hth : w2.there w.heap.size 0 LZ.toArray.size := there_row HR2.out (by rw [HC.out, HZ.out.2.2]; exact Nat.le_refl _)
      have hbz := (HD2.out).trans (Lib.below_setCells_w (B := w.heap.size) (g := w.heap.size) (Nat.le_refl _) LZ.toArray.toList 0 w2)
      have HBZ := Lib.hid hbz; clear hbz
      go_wp2_with (first
        | (with_reducible refine wpList_build_m0 HL.out rfl rfl ?_)
        | (with_reducible refine wpList_store_mid rfl 34 _ _ rfl w.heap.size 0 LZ.toArray rfl rfl hth HZ.out.1 HZ.out.2.1 ?_))
      refine bodyPost_ret (results_cell2 (cs := LZ) rfl rfl (World.rangeAt_setCells_same _ _ _ _ (by simpa using hth)) Tryd.underlying34 rfl (by have := HZ.out.1; simpa using this)) rfl ?_
      exact ⟨_, rfl, ⟨cx0, by rw [HB.out, ← HL.out]; rfl, by rw [HB.out]; exact ok_zero _⟩, HBZ.out⟩
    have hd6 : decide (6 < k) = false := decide_eq_false k6
    have hk16 : 1 ≤ k ∧ k ≤ 6 := by omega
    have hrd := fun W h => read_any k x1 W (by have := HX.out.2.1; have := HT.out.2.2; omega) h
    have hok := fun m h => Pl.readM_ok (y := x1) (m := m) hk16 h
    have hfi := fun m h => readM_fit (k := k) (y := x1) (m := m) (by have := HX.out.2.1; have := HT.out.2.2; omega) h
    obtain ⟨O, hO⟩ : ∃ O, Pl.readM k x1 = O := ⟨_, rfl⟩
    have HO := Lib.hid (show Pl.wget b = Pl.endM b O by rw [HK.out, if_pos hk16, hO])
    rw [hO] at hrd hok hfi
    have HRD := Lib.hid (And.intro hrd (And.intro hok hfi)); clear hrd hok hfi hO hk16
    have hwk : IntKind.i64.wrap k = k := by rw [IntKind.wrap_i64]; omega
    go_wp2_with fail
    (with_reducible refine (HRD.out.1 _ (HV.out.keep HD2.out (Nat.le_refl _))).mono ?_)
    rintro en w3 ⟨v, rfl, ⟨X', rfl, hok3, hnew⟩, hb3⟩
    have HNW := Lib.hid hnew; clear hnew
    have hR3 := (hb3.block _ (blk_lt HR2.out)).trans HR2.out
    have hd3 := HD2.out.trans (hb3.mono HD2.out.size)
    have hl3 : (mgL (O.getD Pl.zeroM) X').toArray.size = 45 := by rw [List.size_toArray]; exact mgL_len hok3
    have ho3 := mgL_one (O.getD Pl.zeroM) X'
    obtain ⟨L3, hL3⟩ : ∃ L, mgL (O.getD Pl.zeroM) X' = L := ⟨_, rfl⟩
    rw [hL3] at hl3 ho3 ⊢
    have H3 := Lib.hid (And.intro hL3 (And.intro hl3 (And.intro ho3 (And.intro (show (Tryd.prog.info? 34).map (·.size) = some L3.toArray.size by rw [hl3]; exact info_msg) (show (Tryd.prog.info? 34).map (·.size) = some L3.length by rw [← List.size_toArray, hl3]; exact info_msg)))))
    clear hL3 hl3 ho3 c1 hd1' hd6 k1 k6 hwk
    go_upto_region 8 with (with_reducible refine wpList_store_mid rfl 34 _ _ rfl w3.heap.size 0 L3.toArray rfl rfl (there_row (heap_alloc_new _ _) (by rw [H3.out.2.1]; exact Nat.le_of_ble_eq_true rfl)) H3.out.2.2.2.1 H3.out.2.2.1 ?_)
    generalize hW4 : World.setCells _ _ _ _ = w4
    have hb4 : Below w3.heap.size w3 w4 := by rw [← hW4]; exact ((Below.refl _ _).alloc (Nat.le_refl _) _).trans (Lib.below_setCells_w (Nat.le_refl _) _ _ _)
    have hr4 : w4.rangeAt w3.heap.size 0 L3 := by
      rw [← hW4]
      refine World.rangeAt_setCells_same _ _ _ _ (there_row (heap_alloc_new _ _) ?_)
      rw [show L3.toArray.toList.length = 45 by have := H3.out.2.1; simpa using this]; exact Nat.le_of_ble_eq_true rfl
    have hB4 : w3.heap.size < w4.heap.size := by rw [← hW4]; exact Nat.lt_of_lt_of_le (by simp) (Lib.below_setCells_w (Nat.le_refl w3.heap.size) _ _ _).size
    clear hW4
    have HR4 := Lib.hid ((hb4.block _ (blk_lt hR3)).trans hR3)
    have HD4 := Lib.hid (hd3.trans (hb4.mono hd3.size))
    have hok4 := hok3.below hb4
    clear hok3 hb3 hb4 hR3 hd3
    cases O with
    | none =>
      have HB := Lib.hid (show Pl.wget b = (Pl.zeroM, 3) by exact HO.out)
      have hth : w4.there w.heap.size 0 LZ.toArray.size := there_row HR4.out (by rw [HC.out, HZ.out.2.2]; exact Nat.le_refl _)
      have hbz := (HD4.out).trans (Lib.below_setCells_w (B := w.heap.size) (g := w.heap.size) (Nat.le_refl _) LZ.toArray.toList 0 w4)
      have HBZ := Lib.hid hbz; clear hbz
      go_wp2_with (first
        | (with_reducible refine wpList_build_m0 HL.out rfl rfl ?_)
        | (with_reducible refine wpList_store_mid rfl 34 _ _ rfl w.heap.size 0 LZ.toArray rfl rfl hth HZ.out.1 HZ.out.2.1 ?_))
      refine bodyPost_ret (results_cell2 (cs := LZ) rfl rfl (World.rangeAt_setCells_same _ _ _ _ (by simpa using hth)) Tryd.underlying34 rfl (by have := HZ.out.1; simpa using this)) rfl ?_
      exact ⟨_, rfl, ⟨cx0, by rw [HB.out, ← HL.out]; rfl, by rw [HB.out]; exact ok_zero _⟩, HBZ.out⟩
    | some m =>
      have hm := (HRD.out.2.1 m rfl).1
      have hfm := HRD.out.2.2 m rfl
      have hpt := fun W h hv => wput_any m X' W h hfm hm hv
      obtain ⟨⟨B, E⟩, hBE⟩ : ∃ x, Pl.wput m = x := ⟨_, rfl⟩
      rw [hBE] at hpt
      have hE0 : Pl.wget b = if (B, E) = (b, 0) then (m, 0) else (Pl.zeroM, 3) := by
        rw [HO.out]; show (if Pl.wput m = (b, 0) then (m, 0) else (Pl.zeroM, 3)) = _; rw [hBE]
      have HP := Lib.hid (And.intro hpt (And.intro hE0 hok4)); clear hpt hE0 hok4 hm hfm hBE
      have hL : mgL m X' = L3 := H3.out.1
      have HLL := Lib.hid hL; clear hL
      have hi3 := H3.out.2.2.2.2
      have HB4 := Lib.hid (And.intro hr4 hB4)
      go_wp2_with (with_reducible refine wpList_load_mid rfl 34 _ rfl w3.heap.size 0 rfl L3 _ hr4 Tryd.underlying34 rfl hi3 ?_)
      rw [← HLL.out]
      (with_reducible refine (HP.out.1 _ HP.out.2.2 (HV.out.tab.keep HD4.out (Nat.le_refl _))).mono ?_)
      rintro en w5 ⟨v, rfl, rfl, hb5⟩
      rw [HLL.out]
      have HR5 := Lib.hid ((hb5.block _ (blk_lt HR4.out)).trans HR4.out)
      have HD5 := Lib.hid (HD4.out.trans (hb5.mono HD4.out.size))
      have hr5 : w5.rangeAt w3.heap.size 0 L3 := fun j v hv => (hb5.cell (p := ⟨w3.heap.size, 0 + j, none⟩) HB4.out.2).trans (HB4.out.1 j v hv)
      have HOK5 := Lib.hid (HP.out.2.2.below hb5)
      clear hr4 hB4 hb5
      unfold bytesV
      by_cases hE : E ≠ 0
      · have hne : ((E : Int) == 0) = false := by rw [beq_eq_false_iff_ne]; omega
        have hne' : ((E : Int) != 0) = true := by unfold bne; rw [hne]; rfl
        have HB := Lib.hid (show Pl.wget b = (Pl.zeroM, 3) by rw [HP.out.2.1, if_neg (by intro h; injection h with _ h; exact hE h)])
        have hth : w5.there w.heap.size 0 LZ.toArray.size := there_row HR5.out (by rw [HC.out, HZ.out.2.2]; exact Nat.le_refl _)
        have hbz := (HD5.out).trans (Lib.below_setCells_w (B := w.heap.size) (g := w.heap.size) (Nat.le_refl _) LZ.toArray.toList 0 w5)
        have HBZ := Lib.hid hbz; clear hbz
        go_wp2_with (first
          | (with_reducible refine wpList_build_m0 HL.out rfl rfl ?_)
          | (with_reducible refine wpList_store_mid rfl 34 _ _ rfl w.heap.size 0 LZ.toArray rfl rfl hth HZ.out.1 HZ.out.2.1 ?_))
        refine bodyPost_ret (results_cell2 (cs := LZ) rfl rfl (World.rangeAt_setCells_same _ _ _ _ (by simpa using hth)) Tryd.underlying34 rfl (by have := HZ.out.1; simpa using this)) rfl ?_
        exact ⟨_, rfl, ⟨cx0, by rw [HB.out, ← HL.out]; rfl, by rw [HB.out]; exact ok_zero _⟩, HBZ.out⟩
      obtain rfl : E = 0 := by omega
      clear hE
      by_cases hBb : B = b
      rotate_left
      · have hne : (B == b) = false := beq_eq_false_iff_ne.2 hBb
        have hne' : (B != b) = true := by unfold bne; rw [hne]; rfl
        have HB := Lib.hid (show Pl.wget b = (Pl.zeroM, 3) by rw [HP.out.2.1, if_neg (by intro h; injection h with h _; exact hBb h)])
        have hth : w5.there w.heap.size 0 LZ.toArray.size := there_row HR5.out (by rw [HC.out, HZ.out.2.2]; exact Nat.le_refl _)
        have hbz := (HD5.out).trans (Lib.below_setCells_w (B := w.heap.size) (g := w.heap.size) (Nat.le_refl _) LZ.toArray.toList 0 w5)
        have HBZ := Lib.hid hbz; clear hbz
        go_wp2_with (first
          | (with_reducible refine wpList_build_m0 HL.out rfl rfl ?_)
          | (with_reducible refine wpList_store_mid rfl 34 _ _ rfl w.heap.size 0 LZ.toArray rfl rfl hth HZ.out.1 HZ.out.2.1 ?_))
        refine bodyPost_ret (results_cell2 (cs := LZ) rfl rfl (World.rangeAt_setCells_same _ _ _ _ (by simpa using hth)) Tryd.underlying34 rfl (by have := HZ.out.1; simpa using this)) rfl ?_
        exact ⟨_, rfl, ⟨cx0, by rw [HB.out, ← HL.out]; rfl, by rw [HB.out]; exact ok_zero _⟩, HBZ.out⟩
      subst hBb
      have t : (B == B) = true := by simp
      have t' : (B != B) = false := by simp
      have HG := Lib.hid (show Pl.wget B = (m, 0) by rw [HP.out.2.1, if_pos rfl])
      have hth : w5.there w.heap.size 0 L3.toArray.size := there_row HR5.out (by rw [HC.out, H3.out.2.1]; exact Nat.le_refl _)
      have hbz := HD5.out.trans (Lib.below_setCells_w (B := w.heap.size) (g := w.heap.size) (Nat.le_refl _) L3.toArray.toList 0 w5)
      have HBZ := Lib.hid hbz; clear hbz
      go_wp2_with (first
        | (with_reducible refine wpList_load_mid rfl 34 _ rfl w3.heap.size 0 rfl L3 _ hr5 Tryd.underlying34 rfl hi3 ?_)
        | (with_reducible refine wpList_store_mid rfl 34 _ _ rfl w.heap.size 0 L3.toArray rfl rfl hth H3.out.2.2.2.1 H3.out.2.2.1 ?_))
      refine bodyPost_ret (results_cell2 (cs := L3) rfl rfl (World.rangeAt_setCells_same _ _ _ _ (by simpa using hth)) Tryd.underlying34 rfl hi3) rfl ?_
      exact ⟨_, rfl, ⟨X', by rw [HG.out, ← HLL.out]; rfl, by rw [HG.out]; exact snOk_setCells (blk_lt HR2.out) HNW.out _ _ _ HOK5.out⟩, HBZ.out⟩
end Go.Proofs.YtadoplgmeoghmaaDoor
