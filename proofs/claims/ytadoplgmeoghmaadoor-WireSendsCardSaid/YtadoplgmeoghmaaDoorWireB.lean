/- The walk of wire's bare: the message without what its kind has. -/
import Derived.Test.YtadoplgmeoghmaaDoorWireC
import Derived.Test.YtadoplgmeoghmaaDoorMfAl
import Derived.Deep.Upon
namespace Go.Proofs.YtadoplgmeoghmaaDoor
open Go.RowKit
set_option linter.unusedVariables false
set_option linter.unusedSimpArgs false
attribute [local go_sem] ba_get ba_cut ba_add
theorem range_append {w : World} {b o : Nat} {xs ys : List Value} (h1 : w.rangeAt b o xs) (h2 : w.rangeAt b (o + xs.length) ys) : w.rangeAt b o (xs ++ ys) := fun j v hv => by
  rcases Nat.lt_or_ge j xs.length with hj | hj
  · rw [List.getElem?_append_left hj] at hv; exact h1 j v hv
  · rw [List.getElem?_append_right hj] at hv
    have := h2 (j - xs.length) v hv
    rwa [show o + xs.length + (j - xs.length) = o + j by omega] at this
theorem there_sub {w : World} {b o n m : Nat} (h : w.there b 0 n) (hm : o + m ≤ n) : w.there b o m := fun i hi => by
  have := h (o + i) (by omega)
  rwa [Nat.zero_add] at this
def BareOut (m : Pl.Msg) (v : Value) (w' : World) : Prop := ∃ X', v = .tuple #[.agg (mgL (Pl.bareM m) X').toArray, .bool (Pl.knownM m)] ∧ SnOk w' (Pl.bareM m).snap X'
theorem set_data (m : Pl.Msg) (X : Cx) : (mgL m X).set 1 (.string ⟨#[]⟩) = mgL { m with data := [] } X := rfl
theorem set_n (m : Pl.Msg) (X : Cx) (hs : m.snap.sum.length = 32) : (mgL m X).set 43 (.int .i64 0) = mgL { m with n := 0 } X := by
  have hl : (snL m.snap X).length = 41 := by simp [snL, byC_len, hs]
  unfold mgL
  rw [List.set_append_right _ _ (by simp), List.set_append_right _ _ (by simp [hl])]
  simp [hl]
theorem set_why (m : Pl.Msg) (X : Cx) (hs : m.snap.sum.length = 32) : (mgL m X).set 44 (.int .i64 0) = mgL { m with why := 0 } X := by
  have hl : (snL m.snap X).length = 41 := by simp [snL, byC_len, hs]
  unfold mgL
  rw [List.set_append_right _ _ (by simp), List.set_append_right _ _ (by simp [hl])]
  simp [hl]
theorem snL_one (s : Pl.Snap) (X : Cx) : ∀ v ∈ snL s X, v.oneCell' = true := by
  intro v hv
  unfold snL at hv
  rcases List.mem_append.1 hv with h | h
  · simp only [List.mem_cons, List.not_mem_nil, or_false] at h
    rcases h with rfl | rfl | rfl | rfl | rfl | rfl | rfl | rfl | rfl <;> rfl
  · exact byC_one _ v h
theorem mgL_one (m : Pl.Msg) (X : Cx) : (mgL m X).toArray.all (·.oneCell') = true := all_oneCell_toArray fun v hv => by
  unfold mgL at hv
  rcases List.mem_append.1 hv with h | h
  · simp only [List.mem_cons, List.not_mem_nil, or_false] at h
    rcases h with rfl | rfl <;> rfl
  · rcases List.mem_append.1 h with h | h
    · exact snL_one _ _ v h
    · simp only [List.mem_cons, List.not_mem_nil, or_false] at h
      rcases h with rfl | rfl <;> rfl
theorem wpList_build_snap {ZS : List Value} (hZ : snL Pl.zeroS cx0 = ZS) {ops : Array Oper} {rest : List Oper} {op : Oper} {a : Act} {w : World} {Q : Exit → Act → World → Prop} (hgd : op.guard = none) (ho : op.op = .build 31 #[])
    (h : wpList Tryd.prog ops Q rest (a.put op.dst (.agg ZS.toArray)) w) : wpList Tryd.prog ops Q (op :: rest) a w :=
  wpList_plain hgd fun _ hK => by
    have hb : (Instr.build 31 #[]).run Tryd.prog w = .ok (.agg (snL Pl.zeroS cx0).toArray) w := run_build w 31 _ _ (by kernel_rfl)
    unfold Oper.wp execOp
    simp only [ho, Array.map_empty, Sem.run_bind, hb, Result.andThen_ok, Sem.run_pure]
    rw [hZ]
    exact hK _ _ h
theorem bareM_12 {m : Pl.Msg} (h : m.k = 1 ∨ m.k = 2) : Pl.bareM m = { m with data := [] } := by unfold Pl.bareM; rw [if_pos h]
theorem bareM_3 {m : Pl.Msg} (h : m.k = 3) : Pl.bareM m = { m with snap := Pl.zeroS } := by unfold Pl.bareM; rw [if_neg (by omega), if_pos h]
theorem bareM_4 {m : Pl.Msg} (h : m.k = 4) : Pl.bareM m = { m with n := 0 } := by unfold Pl.bareM; rw [if_neg (by omega), if_neg (by omega), if_pos h]
theorem bareM_5 {m : Pl.Msg} (h : m.k = 5) : Pl.bareM m = { m with why := 0 } := by unfold Pl.bareM; rw [if_neg (by omega), if_neg (by omega), if_neg (by omega), if_pos h]
theorem bareM_no {m : Pl.Msg} (h : ¬ (1 ≤ m.k ∧ m.k ≤ 5)) : Pl.bareM m = m := by unfold Pl.bareM; rw [if_neg (by omega), if_neg (by omega), if_neg (by omega), if_neg (by omega)]
set_option maxRecDepth 100000 in
set_option maxHeartbeats 8000000 in
theorem bare_any (m : Pl.Msg) (X : Cx) (w : World) (hok : SnOk w m.snap X) : Calls Tryd.prog 34 #[.agg (mgL m X).toArray] w (RetB (BareOut m) w) := by
  have hs := hok.sum
  have HI := Lib.hid (info_mg hok)
  obtain ⟨K, hK⟩ : ∃ K, Pl.knownM m = K := ⟨_, rfl⟩
  have hlen := mgL_len hok
  obtain ⟨LS, hLS⟩ : ∃ L, mgL m X = L := ⟨_, rfl⟩
  rw [hLS] at hlen ⊢
  go_enter Tryd.func34, Tryd.ntmps34
  go_upto_region 1 with (fail)
  generalize hV : (w.alloc _).alloc _ = V
  have hH : V.heap[w.heap.size]? = some (.cells LS.toArray 34 (0, 0)) := by rw [← hV]; exact (Below.heap_alloc _ _ _ (by simp)).trans (heap_alloc_new w _)
  have hD : ∃ C : Array Value, C.size = 45 ∧ V.heap[w.heap.size + 1]? = some (.cells C 34 (0, 0)) := ⟨_, rfl, by rw [← hV]; exact heap_alloc_2 w _ _⟩
  obtain ⟨C, hC, hD⟩ := hD
  have hbV : Below w.heap.size w V := by rw [← hV]; exact ((Below.refl _ _).alloc (Nat.le_refl _) _).alloc (by simp) _
  have hk0 : V.cell? ⟨w.heap.size, 0, none⟩ = some (.int .i64 m.k) := by rw [cell_row V _ 0 _ _ hH, ← hLS]; rfl
--BODY
  have HH := Lib.hid (And.intro hH (And.intro hD (And.intro hC (And.intro hLS (And.intro hs (And.intro hlen (And.intro hok (And.intro hbV hK))))))))
  clear hV hH hD hC hLS hs hlen hok hbV hK
  by_cases h1 : m.k = 1
  · have h := h1
    have e1 : (m.k == 1) = true := by rw [h]; rfl
    obtain ⟨L1, hL1⟩ : ∃ L, mgL (Pl.bareM m) X = L := ⟨_, rfl⟩
    have hl1 : L1.length = 45 := by rw [← hL1]; exact mgL_len (w := w) (X := X) (by rw [bareM_12 (.inl h)]; exact HH.out.2.2.2.2.2.2.1)
    have hkn : K = true := by rw [← HH.out.2.2.2.2.2.2.2.2]; unfold Pl.knownM; exact decide_eq_true (by omega)
    have hfz : V.frozen? ⟨w.heap.size, 1, none⟩ = false := frozen_of V _ _ _ _ HH.out.1
    have hcz : V.cell? ⟨w.heap.size, 1, none⟩ = some (.string ⟨m.data.toArray⟩) := (mg_row HH.out.2.2.2.2.1 (by rw [HH.out.2.2.2.1]; exact HH.out.1) : Mg V w.heap.size m X).data
    have hLL : LS.set 1 (.string ⟨#[]⟩) = L1 := by rw [← hL1, ← HH.out.2.2.2.1, bareM_12 (.inl h)]; exact set_data m X
    have hb1 : Below w.heap.size w (V.setCell ⟨w.heap.size, 1, none⟩ (.string ⟨#[]⟩)) := HH.out.2.2.2.2.2.2.2.1.setCell (p := ⟨w.heap.size, 1, none⟩) (Nat.le_refl _) _
    have hr1 : (V.setCell ⟨w.heap.size, 1, none⟩ (.string ⟨#[]⟩)).rangeAt w.heap.size 0 L1 := by
      have h1 := set_at V w.heap.size 1 _ (.string ⟨#[]⟩) _ HH.out.1
      rw [List.setIfInBounds_toArray, hLL] at h1
      exact range_row h1
    have hf1 : (V.setCell ⟨w.heap.size, 1, none⟩ (.string ⟨#[]⟩)).heap[w.heap.size + 1]? = some (.cells C 34 (0, 0)) := by rw [Below.heap_setCell _ _ _ _ (by show _ ≠ _; simp)]; exact HH.out.2.1
    have hth : (V.setCell ⟨w.heap.size, 1, none⟩ (.string ⟨#[]⟩)).there (w.heap.size + 1) 0 L1.toArray.size := there_row hf1 (by rw [HH.out.2.2.1, List.size_toArray, hl1]; exact Nat.le_refl _)
    have hinf : (Tryd.prog.info? 34).map (·.size) = some L1.length := by rw [hl1]; exact info_msg
    have hinf2 : (Tryd.prog.info? 34).map (·.size) = some L1.toArray.size := by rw [List.size_toArray, hl1]; exact info_msg
    have ho1 : L1.toArray.all (·.oneCell') = true := by rw [← hL1]; exact mgL_one _ _
    have hb2 := hb1.trans (Lib.below_setCells_w (B := w.heap.size) (g := w.heap.size + 1) (by omega) L1.toArray.toList 0 (V.setCell ⟨w.heap.size, 1, none⟩ (.string ⟨#[]⟩)))
    have hsn := (show SnOk w (Pl.bareM m).snap X from by rw [bareM_12 (.inl h)]; exact HH.out.2.2.2.2.2.2.1).below hb2
    have HL := Lib.hid (And.intro hL1 (And.intro hkn (And.intro hsn (And.intro hb2 (And.intro hr1 (And.intro hth (And.intro hinf (And.intro hinf2 ho1))))))))
    clear hL1 hkn hsn hb2 hb1 hr1 hth hinf hinf2 ho1 hl1 h hf1
    go_wp2_with (first
      | (with_reducible refine wpList_load_mid rfl 34 _ rfl w.heap.size 0 rfl L1 _ HL.out.2.2.2.2.1 Tryd.underlying34 rfl HL.out.2.2.2.2.2.2.1 ?_)
      | (with_reducible refine wpList_store_mid rfl 34 _ _ rfl (w.heap.size + 1) 0 L1.toArray rfl rfl HL.out.2.2.2.2.2.1 HL.out.2.2.2.2.2.2.2.1 HL.out.2.2.2.2.2.2.2.2 ?_))
    refine bodyPost_ret (results_cell2 (cs := L1) rfl rfl (World.rangeAt_setCells_same _ _ _ _ (by simpa using HL.out.2.2.2.2.2.1)) Tryd.underlying34 rfl HL.out.2.2.2.2.2.2.1) rfl ?_
    exact ⟨_, rfl, ⟨_, by rw [HL.out.1, ← HH.out.2.2.2.2.2.2.2.2.symm, HL.out.2.1]; rfl, HL.out.2.2.1⟩, HL.out.2.2.2.1⟩
  by_cases h2 : m.k = 2
  · have h := h2
    have e1 : (m.k == 1) = false := by simp only [beq_eq_false_iff_ne]; omega
    have e2 : (m.k == 2) = true := by rw [h]; rfl
    obtain ⟨L1, hL1⟩ : ∃ L, mgL (Pl.bareM m) X = L := ⟨_, rfl⟩
    have hl1 : L1.length = 45 := by rw [← hL1]; exact mgL_len (w := w) (X := X) (by rw [bareM_12 (.inr h)]; exact HH.out.2.2.2.2.2.2.1)
    have hkn : K = true := by rw [← HH.out.2.2.2.2.2.2.2.2]; unfold Pl.knownM; exact decide_eq_true (by omega)
    have hfz : V.frozen? ⟨w.heap.size, 1, none⟩ = false := frozen_of V _ _ _ _ HH.out.1
    have hcz : V.cell? ⟨w.heap.size, 1, none⟩ = some (.string ⟨m.data.toArray⟩) := (mg_row HH.out.2.2.2.2.1 (by rw [HH.out.2.2.2.1]; exact HH.out.1) : Mg V w.heap.size m X).data
    have hLL : LS.set 1 (.string ⟨#[]⟩) = L1 := by rw [← hL1, ← HH.out.2.2.2.1, bareM_12 (.inr h)]; exact set_data m X
    have hb1 : Below w.heap.size w (V.setCell ⟨w.heap.size, 1, none⟩ (.string ⟨#[]⟩)) := HH.out.2.2.2.2.2.2.2.1.setCell (p := ⟨w.heap.size, 1, none⟩) (Nat.le_refl _) _
    have hr1 : (V.setCell ⟨w.heap.size, 1, none⟩ (.string ⟨#[]⟩)).rangeAt w.heap.size 0 L1 := by
      have h1 := set_at V w.heap.size 1 _ (.string ⟨#[]⟩) _ HH.out.1
      rw [List.setIfInBounds_toArray, hLL] at h1
      exact range_row h1
    have hf1 : (V.setCell ⟨w.heap.size, 1, none⟩ (.string ⟨#[]⟩)).heap[w.heap.size + 1]? = some (.cells C 34 (0, 0)) := by rw [Below.heap_setCell _ _ _ _ (by show _ ≠ _; simp)]; exact HH.out.2.1
    have hth : (V.setCell ⟨w.heap.size, 1, none⟩ (.string ⟨#[]⟩)).there (w.heap.size + 1) 0 L1.toArray.size := there_row hf1 (by rw [HH.out.2.2.1, List.size_toArray, hl1]; exact Nat.le_refl _)
    have hinf : (Tryd.prog.info? 34).map (·.size) = some L1.length := by rw [hl1]; exact info_msg
    have hinf2 : (Tryd.prog.info? 34).map (·.size) = some L1.toArray.size := by rw [List.size_toArray, hl1]; exact info_msg
    have ho1 : L1.toArray.all (·.oneCell') = true := by rw [← hL1]; exact mgL_one _ _
    have hb2 := hb1.trans (Lib.below_setCells_w (B := w.heap.size) (g := w.heap.size + 1) (by omega) L1.toArray.toList 0 (V.setCell ⟨w.heap.size, 1, none⟩ (.string ⟨#[]⟩)))
    have hsn := (show SnOk w (Pl.bareM m).snap X from by rw [bareM_12 (.inr h)]; exact HH.out.2.2.2.2.2.2.1).below hb2
    have HL := Lib.hid (And.intro hL1 (And.intro hkn (And.intro hsn (And.intro hb2 (And.intro hr1 (And.intro hth (And.intro hinf (And.intro hinf2 ho1))))))))
    clear hL1 hkn hsn hb2 hb1 hr1 hth hinf hinf2 ho1 hl1 h hf1
    go_wp2_with (first
      | (with_reducible refine wpList_load_mid rfl 34 _ rfl w.heap.size 0 rfl L1 _ HL.out.2.2.2.2.1 Tryd.underlying34 rfl HL.out.2.2.2.2.2.2.1 ?_)
      | (with_reducible refine wpList_store_mid rfl 34 _ _ rfl (w.heap.size + 1) 0 L1.toArray rfl rfl HL.out.2.2.2.2.2.1 HL.out.2.2.2.2.2.2.2.1 HL.out.2.2.2.2.2.2.2.2 ?_))
    refine bodyPost_ret (results_cell2 (cs := L1) rfl rfl (World.rangeAt_setCells_same _ _ _ _ (by simpa using HL.out.2.2.2.2.2.1)) Tryd.underlying34 rfl HL.out.2.2.2.2.2.2.1) rfl ?_
    exact ⟨_, rfl, ⟨_, by rw [HL.out.1, ← HH.out.2.2.2.2.2.2.2.2.symm, HL.out.2.1]; rfl, HL.out.2.2.1⟩, HL.out.2.2.2.1⟩
  by_cases h3 : m.k = 3
  · have h := h3
    have e1 : (m.k == 1) = false := by simp only [beq_eq_false_iff_ne]; omega
    have e2 : (m.k == 2) = false := by simp only [beq_eq_false_iff_ne]; omega
    have e3 : (m.k == 3) = true := by rw [h]; rfl
    obtain ⟨L1, hL1⟩ : ∃ L, mgL (Pl.bareM m) cx0 = L := ⟨_, rfl⟩
    have hl1 : L1.length = 45 := by rw [← hL1]; exact mgL_len (w := w) (X := cx0) (by rw [bareM_3 h]; exact ok_zero w)
    have hkn : K = true := by rw [← HH.out.2.2.2.2.2.2.2.2]; unfold Pl.knownM; exact decide_eq_true (by omega)
    obtain ⟨ZS, hZS⟩ : ∃ L, snL Pl.zeroS cx0 = L := ⟨_, rfl⟩
    have hzo : ZS.toArray.all (·.oneCell') = true := all_oneCell_toArray (by rw [← hZS]; exact snL_one _ _)
    have hthz : V.there w.heap.size 2 ZS.toArray.size := there_sub (n := 45) (there_row HH.out.1 (by rw [List.size_toArray, HH.out.2.2.2.2.2.1]; exact Nat.le_refl _)) (by rw [List.size_toArray, ← hZS]; decide)
    have hinfz : (Tryd.prog.info? 31).map (·.size) = some ZS.toArray.size := by rw [List.size_toArray, ← hZS]; kernel_rfl
    have HZ := Lib.hid (And.intro hZS (And.intro hzo (And.intro hthz hinfz)))
    have hb1 : Below w.heap.size w (V.setCells w.heap.size 2 ZS.toArray.toList) := HH.out.2.2.2.2.2.2.2.1.trans (Lib.below_setCells_w (Nat.le_refl _) _ _ _)
    have hr1 : (V.setCells w.heap.size 2 ZS.toArray.toList).rangeAt w.heap.size 0 L1 := by
      rw [← hL1, bareM_3 h]
      have hlz : ZS.length = 41 := by rw [← hZS]; rfl
      have hx : Mg V w.heap.size m X := mg_row HH.out.2.2.2.2.1 (by rw [HH.out.2.2.2.1]; exact HH.out.1)
      have hzl : ZS.toArray.toList.length = 41 := by simpa using hlz
      have ra : V.rangeAt w.heap.size 0 [.int .i64 m.k, .string ⟨m.data.toArray⟩] := fun j v hv => hx.all j v (by
        unfold mgL; rw [List.getElem?_append_left (List.getElem?_eq_some_iff.1 hv).1]; exact hv)
      have rb : V.rangeAt w.heap.size (2 + 41) [.int .i64 m.n, .int .i64 m.why] := fun j v hv => by
        rcases j with _ | _ | j
        · rw [← hv]; exact hx.n
        · rw [← hv]; exact hx.why
        · cases hv
      refine range_append (xs := [.int .i64 m.k, .string ⟨m.data.toArray⟩]) ?_ (range_append (xs := snL Pl.zeroS cx0) ?_ ?_)
      · exact World.rangeAt_setCells_apart ra _ _ _ (.inr (.inl (by simp)))
      · rw [hZS]
        exact World.rangeAt_setCells_same _ _ _ _ (by simpa using hthz)
      · have e : 0 + [Value.int .i64 m.k, .string ⟨m.data.toArray⟩].length + (snL Pl.zeroS cx0).length = 2 + 41 := rfl
        rw [e]
        exact World.rangeAt_setCells_apart rb _ _ _ (.inr (.inr (by rw [hzl]; omega)))
    have hf1 : (V.setCells w.heap.size 2 ZS.toArray.toList).heap[w.heap.size + 1]? = some (.cells C 34 (0, 0)) := by rw [World.heap_setCells_other _ _ _ _ (blk_lt HH.out.2.1) (by simp)]; exact HH.out.2.1
    have hth : (V.setCells w.heap.size 2 ZS.toArray.toList).there (w.heap.size + 1) 0 L1.toArray.size := there_row hf1 (by rw [HH.out.2.2.1, List.size_toArray, hl1]; exact Nat.le_refl _)
    have hinf : (Tryd.prog.info? 34).map (·.size) = some L1.length := by rw [hl1]; exact info_msg
    have hinf2 : (Tryd.prog.info? 34).map (·.size) = some L1.toArray.size := by rw [List.size_toArray, hl1]; exact info_msg
    have ho1 : L1.toArray.all (·.oneCell') = true := by rw [← hL1]; exact mgL_one _ _
    have hb2 := hb1.trans (Lib.below_setCells_w (B := w.heap.size) (g := w.heap.size + 1) (by omega) L1.toArray.toList 0 (V.setCells w.heap.size 2 ZS.toArray.toList))
    have hsn := (show SnOk w (Pl.bareM m).snap cx0 from by rw [bareM_3 h]; exact ok_zero w).below hb2
    have HL := Lib.hid (And.intro hL1 (And.intro hkn (And.intro hsn (And.intro hb2 (And.intro hr1 (And.intro hth (And.intro hinf (And.intro hinf2 ho1))))))))
    clear hZS hzo hthz hinfz hL1 hkn hsn hb2 hb1 hr1 hth hinf hinf2 ho1 hl1 h hf1
    go_wp2_with (first
      | (with_reducible refine wpList_load_mid rfl 34 _ rfl w.heap.size 0 rfl L1 _ HL.out.2.2.2.2.1 Tryd.underlying34 rfl HL.out.2.2.2.2.2.2.1 ?_)
      | (with_reducible refine wpList_store_mid rfl 34 _ _ rfl (w.heap.size + 1) 0 L1.toArray rfl rfl HL.out.2.2.2.2.2.1 HL.out.2.2.2.2.2.2.2.1 HL.out.2.2.2.2.2.2.2.2 ?_)
      | (with_reducible refine wpList_build_snap HZ.out.1 rfl rfl ?_)
      | (with_reducible refine wpList_store_mid rfl 31 _ _ rfl w.heap.size 2 ZS.toArray rfl rfl HZ.out.2.2.1 HZ.out.2.2.2 HZ.out.2.1 ?_))
    refine bodyPost_ret (results_cell2 (cs := L1) rfl rfl (World.rangeAt_setCells_same _ _ _ _ (by simpa using HL.out.2.2.2.2.2.1)) Tryd.underlying34 rfl HL.out.2.2.2.2.2.2.1) rfl ?_
    exact ⟨_, rfl, ⟨_, by rw [HL.out.1, ← HH.out.2.2.2.2.2.2.2.2.symm, HL.out.2.1]; rfl, HL.out.2.2.1⟩, HL.out.2.2.2.1⟩
  by_cases h4 : m.k = 4
  · have h := h4
    have e1 : (m.k == 1) = false := by simp only [beq_eq_false_iff_ne]; omega
    have e2 : (m.k == 2) = false := by simp only [beq_eq_false_iff_ne]; omega
    have e3 : (m.k == 3) = false := by simp only [beq_eq_false_iff_ne]; omega
    have e4 : (m.k == 4) = true := by rw [h]; rfl
    obtain ⟨L1, hL1⟩ : ∃ L, mgL (Pl.bareM m) X = L := ⟨_, rfl⟩
    have hl1 : L1.length = 45 := by rw [← hL1]; exact mgL_len (w := w) (X := X) (by rw [bareM_4 h]; exact HH.out.2.2.2.2.2.2.1)
    have hkn : K = true := by rw [← HH.out.2.2.2.2.2.2.2.2]; unfold Pl.knownM; exact decide_eq_true (by omega)
    have hfz : V.frozen? ⟨w.heap.size, 43, none⟩ = false := frozen_of V _ _ _ _ HH.out.1
    have hcz : V.cell? ⟨w.heap.size, 43, none⟩ = some (.int .i64 m.n) := (mg_row HH.out.2.2.2.2.1 (by rw [HH.out.2.2.2.1]; exact HH.out.1) : Mg V w.heap.size m X).n
    have hLL : LS.set 43 (.int .i64 0) = L1 := by rw [← hL1, ← HH.out.2.2.2.1, bareM_4 h]; exact set_n m X HH.out.2.2.2.2.1
    have hb1 : Below w.heap.size w (V.setCell ⟨w.heap.size, 43, none⟩ (.int .i64 0)) := HH.out.2.2.2.2.2.2.2.1.setCell (p := ⟨w.heap.size, 43, none⟩) (Nat.le_refl _) _
    have hr1 : (V.setCell ⟨w.heap.size, 43, none⟩ (.int .i64 0)).rangeAt w.heap.size 0 L1 := by
      have h1 := set_at V w.heap.size 43 _ (.int .i64 0) _ HH.out.1
      rw [List.setIfInBounds_toArray, hLL] at h1
      exact range_row h1
    have hf1 : (V.setCell ⟨w.heap.size, 43, none⟩ (.int .i64 0)).heap[w.heap.size + 1]? = some (.cells C 34 (0, 0)) := by rw [Below.heap_setCell _ _ _ _ (by show _ ≠ _; simp)]; exact HH.out.2.1
    have hth : (V.setCell ⟨w.heap.size, 43, none⟩ (.int .i64 0)).there (w.heap.size + 1) 0 L1.toArray.size := there_row hf1 (by rw [HH.out.2.2.1, List.size_toArray, hl1]; exact Nat.le_refl _)
    have hinf : (Tryd.prog.info? 34).map (·.size) = some L1.length := by rw [hl1]; exact info_msg
    have hinf2 : (Tryd.prog.info? 34).map (·.size) = some L1.toArray.size := by rw [List.size_toArray, hl1]; exact info_msg
    have ho1 : L1.toArray.all (·.oneCell') = true := by rw [← hL1]; exact mgL_one _ _
    have hb2 := hb1.trans (Lib.below_setCells_w (B := w.heap.size) (g := w.heap.size + 1) (by omega) L1.toArray.toList 0 (V.setCell ⟨w.heap.size, 43, none⟩ (.int .i64 0)))
    have hsn := (show SnOk w (Pl.bareM m).snap X from by rw [bareM_4 h]; exact HH.out.2.2.2.2.2.2.1).below hb2
    have HL := Lib.hid (And.intro hL1 (And.intro hkn (And.intro hsn (And.intro hb2 (And.intro hr1 (And.intro hth (And.intro hinf (And.intro hinf2 ho1))))))))
    clear hL1 hkn hsn hb2 hb1 hr1 hth hinf hinf2 ho1 hl1 h hf1
    go_wp2_with (first
      | (with_reducible refine wpList_load_mid rfl 34 _ rfl w.heap.size 0 rfl L1 _ HL.out.2.2.2.2.1 Tryd.underlying34 rfl HL.out.2.2.2.2.2.2.1 ?_)
      | (with_reducible refine wpList_store_mid rfl 34 _ _ rfl (w.heap.size + 1) 0 L1.toArray rfl rfl HL.out.2.2.2.2.2.1 HL.out.2.2.2.2.2.2.2.1 HL.out.2.2.2.2.2.2.2.2 ?_))
    refine bodyPost_ret (results_cell2 (cs := L1) rfl rfl (World.rangeAt_setCells_same _ _ _ _ (by simpa using HL.out.2.2.2.2.2.1)) Tryd.underlying34 rfl HL.out.2.2.2.2.2.2.1) rfl ?_
    exact ⟨_, rfl, ⟨_, by rw [HL.out.1, ← HH.out.2.2.2.2.2.2.2.2.symm, HL.out.2.1]; rfl, HL.out.2.2.1⟩, HL.out.2.2.2.1⟩
  by_cases h5 : m.k = 5
  · have h := h5
    have e1 : (m.k == 1) = false := by simp only [beq_eq_false_iff_ne]; omega
    have e2 : (m.k == 2) = false := by simp only [beq_eq_false_iff_ne]; omega
    have e3 : (m.k == 3) = false := by simp only [beq_eq_false_iff_ne]; omega
    have e4 : (m.k == 4) = false := by simp only [beq_eq_false_iff_ne]; omega
    have e5 : (m.k == 5) = true := by rw [h]; rfl
    obtain ⟨L1, hL1⟩ : ∃ L, mgL (Pl.bareM m) X = L := ⟨_, rfl⟩
    have hl1 : L1.length = 45 := by rw [← hL1]; exact mgL_len (w := w) (X := X) (by rw [bareM_5 h]; exact HH.out.2.2.2.2.2.2.1)
    have hkn : K = true := by rw [← HH.out.2.2.2.2.2.2.2.2]; unfold Pl.knownM; exact decide_eq_true (by omega)
    have hfz : V.frozen? ⟨w.heap.size, 44, none⟩ = false := frozen_of V _ _ _ _ HH.out.1
    have hcz : V.cell? ⟨w.heap.size, 44, none⟩ = some (.int .i64 m.why) := (mg_row HH.out.2.2.2.2.1 (by rw [HH.out.2.2.2.1]; exact HH.out.1) : Mg V w.heap.size m X).why
    have hLL : LS.set 44 (.int .i64 0) = L1 := by rw [← hL1, ← HH.out.2.2.2.1, bareM_5 h]; exact set_why m X HH.out.2.2.2.2.1
    have hb1 : Below w.heap.size w (V.setCell ⟨w.heap.size, 44, none⟩ (.int .i64 0)) := HH.out.2.2.2.2.2.2.2.1.setCell (p := ⟨w.heap.size, 44, none⟩) (Nat.le_refl _) _
    have hr1 : (V.setCell ⟨w.heap.size, 44, none⟩ (.int .i64 0)).rangeAt w.heap.size 0 L1 := by
      have h1 := set_at V w.heap.size 44 _ (.int .i64 0) _ HH.out.1
      rw [List.setIfInBounds_toArray, hLL] at h1
      exact range_row h1
    have hf1 : (V.setCell ⟨w.heap.size, 44, none⟩ (.int .i64 0)).heap[w.heap.size + 1]? = some (.cells C 34 (0, 0)) := by rw [Below.heap_setCell _ _ _ _ (by show _ ≠ _; simp)]; exact HH.out.2.1
    have hth : (V.setCell ⟨w.heap.size, 44, none⟩ (.int .i64 0)).there (w.heap.size + 1) 0 L1.toArray.size := there_row hf1 (by rw [HH.out.2.2.1, List.size_toArray, hl1]; exact Nat.le_refl _)
    have hinf : (Tryd.prog.info? 34).map (·.size) = some L1.length := by rw [hl1]; exact info_msg
    have hinf2 : (Tryd.prog.info? 34).map (·.size) = some L1.toArray.size := by rw [List.size_toArray, hl1]; exact info_msg
    have ho1 : L1.toArray.all (·.oneCell') = true := by rw [← hL1]; exact mgL_one _ _
    have hb2 := hb1.trans (Lib.below_setCells_w (B := w.heap.size) (g := w.heap.size + 1) (by omega) L1.toArray.toList 0 (V.setCell ⟨w.heap.size, 44, none⟩ (.int .i64 0)))
    have hsn := (show SnOk w (Pl.bareM m).snap X from by rw [bareM_5 h]; exact HH.out.2.2.2.2.2.2.1).below hb2
    have HL := Lib.hid (And.intro hL1 (And.intro hkn (And.intro hsn (And.intro hb2 (And.intro hr1 (And.intro hth (And.intro hinf (And.intro hinf2 ho1))))))))
    clear hL1 hkn hsn hb2 hb1 hr1 hth hinf hinf2 ho1 hl1 h hf1
    go_wp2_with (first
      | (with_reducible refine wpList_load_mid rfl 34 _ rfl w.heap.size 0 rfl L1 _ HL.out.2.2.2.2.1 Tryd.underlying34 rfl HL.out.2.2.2.2.2.2.1 ?_)
      | (with_reducible refine wpList_store_mid rfl 34 _ _ rfl (w.heap.size + 1) 0 L1.toArray rfl rfl HL.out.2.2.2.2.2.1 HL.out.2.2.2.2.2.2.2.1 HL.out.2.2.2.2.2.2.2.2 ?_))
    refine bodyPost_ret (results_cell2 (cs := L1) rfl rfl (World.rangeAt_setCells_same _ _ _ _ (by simpa using HL.out.2.2.2.2.2.1)) Tryd.underlying34 rfl HL.out.2.2.2.2.2.2.1) rfl ?_
    exact ⟨_, rfl, ⟨_, by rw [HL.out.1, ← HH.out.2.2.2.2.2.2.2.2.symm, HL.out.2.1]; rfl, HL.out.2.2.1⟩, HL.out.2.2.2.1⟩
  by_cases h6 : m.k = 6
  · have h := h6
    have e1 : (m.k == 1) = false := by simp only [beq_eq_false_iff_ne]; omega
    have e2 : (m.k == 2) = false := by simp only [beq_eq_false_iff_ne]; omega
    have e3 : (m.k == 3) = false := by simp only [beq_eq_false_iff_ne]; omega
    have e4 : (m.k == 4) = false := by simp only [beq_eq_false_iff_ne]; omega
    have e5 : (m.k == 5) = false := by simp only [beq_eq_false_iff_ne]; omega
    have e6 : (m.k == 6) = true := by rw [h]; rfl
    obtain ⟨L1, hL1⟩ : ∃ L, mgL (Pl.bareM m) X = L := ⟨_, rfl⟩
    have hl1 : L1.length = 45 := by rw [← hL1]; exact mgL_len (w := w) (X := X) (by rw [bareM_no (by omega)]; exact HH.out.2.2.2.2.2.2.1)
    have hkn : K = true := by rw [← HH.out.2.2.2.2.2.2.2.2]; unfold Pl.knownM; exact decide_eq_true (by omega)
    have hb1 : Below w.heap.size w (V) := HH.out.2.2.2.2.2.2.2.1
    have hr1 : (V).rangeAt w.heap.size 0 L1 := by rw [← hL1, bareM_no (by omega), HH.out.2.2.2.1]; exact range_row HH.out.1
    have hf1 : (V).heap[w.heap.size + 1]? = some (.cells C 34 (0, 0)) := HH.out.2.1
    have hth : (V).there (w.heap.size + 1) 0 L1.toArray.size := there_row hf1 (by rw [HH.out.2.2.1, List.size_toArray, hl1]; exact Nat.le_refl _)
    have hinf : (Tryd.prog.info? 34).map (·.size) = some L1.length := by rw [hl1]; exact info_msg
    have hinf2 : (Tryd.prog.info? 34).map (·.size) = some L1.toArray.size := by rw [List.size_toArray, hl1]; exact info_msg
    have ho1 : L1.toArray.all (·.oneCell') = true := by rw [← hL1]; exact mgL_one _ _
    have hb2 := hb1.trans (Lib.below_setCells_w (B := w.heap.size) (g := w.heap.size + 1) (by omega) L1.toArray.toList 0 (V))
    have hsn := (show SnOk w (Pl.bareM m).snap X from by rw [bareM_no (by omega)]; exact HH.out.2.2.2.2.2.2.1).below hb2
    have HL := Lib.hid (And.intro hL1 (And.intro hkn (And.intro hsn (And.intro hb2 (And.intro hr1 (And.intro hth (And.intro hinf (And.intro hinf2 ho1))))))))
    clear hL1 hkn hsn hb2 hb1 hr1 hth hinf hinf2 ho1 hl1 h hf1
    go_wp2_with (first
      | (with_reducible refine wpList_load_mid rfl 34 _ rfl w.heap.size 0 rfl L1 _ HL.out.2.2.2.2.1 Tryd.underlying34 rfl HL.out.2.2.2.2.2.2.1 ?_)
      | (with_reducible refine wpList_store_mid rfl 34 _ _ rfl (w.heap.size + 1) 0 L1.toArray rfl rfl HL.out.2.2.2.2.2.1 HL.out.2.2.2.2.2.2.2.1 HL.out.2.2.2.2.2.2.2.2 ?_))
    refine bodyPost_ret (results_cell2 (cs := L1) rfl rfl (World.rangeAt_setCells_same _ _ _ _ (by simpa using HL.out.2.2.2.2.2.1)) Tryd.underlying34 rfl HL.out.2.2.2.2.2.2.1) rfl ?_
    exact ⟨_, rfl, ⟨_, by rw [HL.out.1, ← HH.out.2.2.2.2.2.2.2.2.symm, HL.out.2.1]; rfl, HL.out.2.2.1⟩, HL.out.2.2.2.1⟩
  · have h := h6
    have e1 : (m.k == 1) = false := by simp only [beq_eq_false_iff_ne]; omega
    have e2 : (m.k == 2) = false := by simp only [beq_eq_false_iff_ne]; omega
    have e3 : (m.k == 3) = false := by simp only [beq_eq_false_iff_ne]; omega
    have e4 : (m.k == 4) = false := by simp only [beq_eq_false_iff_ne]; omega
    have e5 : (m.k == 5) = false := by simp only [beq_eq_false_iff_ne]; omega
    have e6 : (m.k == 6) = false := by simp only [beq_eq_false_iff_ne]; omega
    obtain ⟨L1, hL1⟩ : ∃ L, mgL (Pl.bareM m) X = L := ⟨_, rfl⟩
    have hl1 : L1.length = 45 := by rw [← hL1]; exact mgL_len (w := w) (X := X) (by rw [bareM_no (by omega)]; exact HH.out.2.2.2.2.2.2.1)
    have hkn : K = false := by rw [← HH.out.2.2.2.2.2.2.2.2]; unfold Pl.knownM; exact decide_eq_false (by omega)
    have hb1 : Below w.heap.size w (V) := HH.out.2.2.2.2.2.2.2.1
    have hr1 : (V).rangeAt w.heap.size 0 L1 := by rw [← hL1, bareM_no (by omega), HH.out.2.2.2.1]; exact range_row HH.out.1
    have hf1 : (V).heap[w.heap.size + 1]? = some (.cells C 34 (0, 0)) := HH.out.2.1
    have hth : (V).there (w.heap.size + 1) 0 L1.toArray.size := there_row hf1 (by rw [HH.out.2.2.1, List.size_toArray, hl1]; exact Nat.le_refl _)
    have hinf : (Tryd.prog.info? 34).map (·.size) = some L1.length := by rw [hl1]; exact info_msg
    have hinf2 : (Tryd.prog.info? 34).map (·.size) = some L1.toArray.size := by rw [List.size_toArray, hl1]; exact info_msg
    have ho1 : L1.toArray.all (·.oneCell') = true := by rw [← hL1]; exact mgL_one _ _
    have hb2 := hb1.trans (Lib.below_setCells_w (B := w.heap.size) (g := w.heap.size + 1) (by omega) L1.toArray.toList 0 (V))
    have hsn := (show SnOk w (Pl.bareM m).snap X from by rw [bareM_no (by omega)]; exact HH.out.2.2.2.2.2.2.1).below hb2
    have HL := Lib.hid (And.intro hL1 (And.intro hkn (And.intro hsn (And.intro hb2 (And.intro hr1 (And.intro hth (And.intro hinf (And.intro hinf2 ho1))))))))
    clear hL1 hkn hsn hb2 hb1 hr1 hth hinf hinf2 ho1 hl1 h hf1
    go_wp2_with (first
      | (with_reducible refine wpList_load_mid rfl 34 _ rfl w.heap.size 0 rfl L1 _ HL.out.2.2.2.2.1 Tryd.underlying34 rfl HL.out.2.2.2.2.2.2.1 ?_)
      | (with_reducible refine wpList_store_mid rfl 34 _ _ rfl (w.heap.size + 1) 0 L1.toArray rfl rfl HL.out.2.2.2.2.2.1 HL.out.2.2.2.2.2.2.2.1 HL.out.2.2.2.2.2.2.2.2 ?_))
    refine bodyPost_ret (results_cell2 (cs := L1) rfl rfl (World.rangeAt_setCells_same _ _ _ _ (by simpa using HL.out.2.2.2.2.2.1)) Tryd.underlying34 rfl HL.out.2.2.2.2.2.2.1) rfl ?_
    exact ⟨_, rfl, ⟨_, by rw [HL.out.1, ← HH.out.2.2.2.2.2.2.2.2.symm, HL.out.2.1]; rfl, HL.out.2.2.1⟩, HL.out.2.2.2.1⟩
end Go.Proofs.YtadoplgmeoghmaaDoor
