/- The walk of wire's read: the message of a kind and of what stands behind it. -/
import Derived.Test.YtadoplgmeoghmaaDoorMfPl2
import Derived.Test.YtadoplgmeoghmaaDoorWireK
import Derived.Test.YtadoplgmeoghmaaDoorOfA
namespace Go.Proofs.YtadoplgmeoghmaaDoor
open Go.RowKit
set_option linter.unusedVariables false
set_option linter.unusedSimpArgs false
attribute [local go_sem] ba_get ba_cut ba_add
def msgK (k : Int) : Pl.Msg := ⟨k, [], Pl.zeroS, 0, 0⟩
theorem wpList_build_mk {L : List Value} (k : Int) (r : Nat) (hL : mgL (msgK k) cx0 = L) {ops : Array Oper} {rest : List Oper} {op : Oper} {a : Act} {w : World} {Q : Exit → Act → World → Prop} (hgd : op.guard = none) (ho : op.op = .build 34 #[(0, .tmp r)])
    (hr : a.eval (.tmp r) = .int .i64 k)
    (h : wpList Tryd.prog ops Q rest (a.put op.dst (.agg L.toArray)) w) : wpList Tryd.prog ops Q (op :: rest) a w :=
  wpList_plain hgd fun _ hK => by
    have hb : (Instr.build 34 #[(0, .int .i64 k)]).run Tryd.prog w = .ok (.agg (mgL (msgK k) cx0).toArray) w := run_build w 34 _ _ (by kernel_rfl)
    unfold Oper.wp execOp
    simp only [ho, List.map_toArray, List.map_cons, List.map_nil, hr, Sem.run_bind, hb, Result.andThen_ok, Sem.run_pure]
    rw [hL]
    exact hK _ _ h
theorem wpList_build_m0 {L : List Value} (hL : mgL Pl.zeroM cx0 = L) {ops : Array Oper} {rest : List Oper} {op : Oper} {a : Act} {w : World} {Q : Exit → Act → World → Prop} (hgd : op.guard = none) (ho : op.op = .build 34 #[])
    (h : wpList Tryd.prog ops Q rest (a.put op.dst (.agg L.toArray)) w) : wpList Tryd.prog ops Q (op :: rest) a w :=
  wpList_plain hgd fun _ hK => by
    have hb : (Instr.build 34 #[]).run Tryd.prog w = .ok (.agg (mgL Pl.zeroM cx0).toArray) w := run_build w 34 _ _ (by kernel_rfl)
    unfold Oper.wp execOp
    simp only [ho, Array.map_empty, Sem.run_bind, hb, Result.andThen_ok, Sem.run_pure]
    rw [hL]
    exact hK _ _ h
theorem wpList_build_m0_g {L : List Value} (hL : mgL Pl.zeroM cx0 = L) {ops : Array Oper} {rest : List Oper} {op : Oper} {a : Act} {w : World} {Q : Exit → Act → World → Prop} (hw : Region.wanted op (yielded ops a.tmps) = true) (ho : op.op = .build 34 #[])
    (h : wpList Tryd.prog ops Q rest (a.put op.dst (.agg L.toArray)) w) : wpList Tryd.prog ops Q (op :: rest) a w :=
  wpList_step fun K hK => by
    rw [if_pos hw]
    have hb : (Instr.build 34 #[]).run Tryd.prog w = .ok (.agg (mgL Pl.zeroM cx0).toArray) w := run_build w 34 _ _ (by kernel_rfl)
    unfold Oper.wp execOp
    simp only [ho, Array.map_empty, Sem.run_bind, hb, Result.andThen_ok, Sem.run_pure]
    rw [hL]
    exact hK _ _ h
theorem put_data (m : Pl.Msg) (X : Cx) (y : List UInt8) : (mgL m X).set 1 (.string ⟨y.toArray⟩) = mgL { m with data := y } X := rfl
theorem put_n (m : Pl.Msg) (X : Cx) (v : Int) (hs : m.snap.sum.length = 32) : (mgL m X).set 43 (.int .i64 v) = mgL { m with n := v } X := by
  have hl : (snL m.snap X).length = 41 := by simp [snL, byC_len, hs]
  unfold mgL
  rw [List.set_append_right _ _ (by simp), List.set_append_right _ _ (by simp [hl])]
  simp [hl]
theorem put_why (m : Pl.Msg) (X : Cx) (v : Int) (hs : m.snap.sum.length = 32) : (mgL m X).set 44 (.int .i64 v) = mgL { m with why := v } X := by
  have hl : (snL m.snap X).length = 41 := by simp [snL, byC_len, hs]
  unfold mgL
  rw [List.set_append_right _ _ (by simp), List.set_append_right _ _ (by simp [hl])]
  simp [hl]
theorem snOk_setCells {s : Pl.Snap} {X : Cx} {H B : Nat} (hH : H < B) (hn : CxNew B X) : ∀ (vs : List Value) (o : Nat) (w : World), SnOk w s X → SnOk (w.setCells H o vs) s X
  | [], _, _, h => h
  | u :: r, o, w, h => snOk_setCells hH hn r (o + 1) _ ⟨h.s0.set (fun e => by have := hn.a0 _ e; omega) o u, h.s1.set (fun e => by have := hn.a1 _ e; omega) o u, h.s2.set (fun e => by have := hn.a2 _ e; omega) o u, h.sum⟩
theorem CxNew.mono {B C : Nat} {X : Cx} (h : CxNew B X) (hC : C ≤ B) : CxNew C X := ⟨fun b e => Nat.le_trans hC (h.a0 b e), fun b e => Nat.le_trans hC (h.a1 b e), fun b e => Nat.le_trans hC (h.a2 b e)⟩
def ReadOut (o : Option Pl.Msg) (B : Nat) (v : Value) (w' : World) : Prop := ∃ X, v = .tuple #[.agg (mgL (o.getD Pl.zeroM) X).toArray, .bool o.isSome] ∧ SnOk w' (o.getD Pl.zeroM).snap X ∧ CxNew B X
/-- The two blocks of the call: the result's, and the message's. -/
structure TwoM (w V : World) (L : List Value) : Prop where
  m : V.heap[w.heap.size + 1]? = some (.cells L.toArray 34 (0, 0))
  r : ∃ C : Array Value, C.size = 45 ∧ V.heap[w.heap.size]? = some (.cells C 34 (0, 0))
  b : Below w.heap.size w V
theorem TwoM.below {w V V' : World} {L : List Value} (h : TwoM w V L) (hb : Below V.heap.size V V') : TwoM w V' L := by
  obtain ⟨C, h1, h2⟩ := h.r
  exact ⟨(hb.block _ (blk_lt h.m)).trans h.m, ⟨C, h1, (hb.block _ (blk_lt h2)).trans h2⟩, h.b.trans (hb.mono h.b.size)⟩
theorem TwoM.set {w V : World} {L : List Value} (h : TwoM w V L) (i : Nat) (v : Value) : TwoM w (V.setCell ⟨w.heap.size + 1, i, none⟩ v) (L.set i v) := by
  obtain ⟨C, h1, h2⟩ := h.r
  refine ⟨?_, ⟨C, h1, ?_⟩, h.b.setCell (p := ⟨w.heap.size + 1, i, none⟩) (by simp) _⟩
  · have := set_at V _ i _ v _ h.m
    rwa [List.setIfInBounds_toArray] at this
  · rw [Below.heap_setCell _ _ _ _ (by show _ ≠ _; simp)]; exact h2
/-- What a return of the message wants. -/
structure EndM (w W : World) (L : List Value) : Prop where
  r : W.rangeAt (w.heap.size + 1) 0 L
  t : W.there w.heap.size 0 L.toArray.size
  i : (Tryd.prog.info? 34).map (·.size) = some L.length
  j : (Tryd.prog.info? 34).map (·.size) = some L.toArray.size
  o : L.toArray.all (·.oneCell') = true
  b : Below w.heap.size w (W.setCells w.heap.size 0 L.toArray.toList)
theorem endM_of {w W : World} {m : Pl.Msg} {X : Cx} (hr : W.rangeAt (w.heap.size + 1) 0 (mgL m X)) (hc : ∃ C : Array Value, C.size = 45 ∧ W.heap[w.heap.size]? = some (.cells C 34 (0, 0))) (hb : Below w.heap.size w W) (hs : m.snap.sum.length = 32) : EndM w W (mgL m X) := by
  have hl : (mgL m X).length = 45 := by simp [mgL, snL, byC_len, hs]
  obtain ⟨C, h1, h2⟩ := hc
  exact ⟨hr, there_row h2 (by rw [h1, List.size_toArray, hl]; exact Nat.le_refl _), by rw [hl]; exact info_msg, by rw [List.size_toArray, hl]; exact info_msg, mgL_one _ _, hb.trans (Lib.below_setCells_w (Nat.le_refl _) _ _ _)⟩
theorem twoM_end {w W : World} {m : Pl.Msg} {X : Cx} (h : TwoM w W (mgL m X)) (hs : m.snap.sum.length = 32) : EndM w W (mgL m X) := endM_of (range_row h.m) h.r h.b hs
set_option maxRecDepth 100000 in
set_option maxHeartbeats 8000000 in
theorem read_any (k : Int) (y : List UInt8) (w : World) (hy : y.length ≤ 1099511627776) (hv : VNum w) : Calls Tryd.prog 28 #[.int .i64 k, .string ⟨y.toArray⟩] w (RetB (ReadOut (Pl.readM k y) w.heap.size) w) := by
  obtain ⟨O, hO⟩ : ∃ O, Pl.readM k y = O := ⟨_, rfl⟩
  rw [hO]
  have HO := Lib.hid hO; clear hO
  obtain ⟨L0, hL0⟩ : ∃ L, mgL (msgK k) cx0 = L := ⟨_, rfl⟩
  obtain ⟨LZ, hLZ⟩ : ∃ L, mgL Pl.zeroM cx0 = L := ⟨_, rfl⟩
  have HL := Lib.hid (And.intro hL0 hLZ)
  have hlz : LZ.toArray.size = 45 := by rw [List.size_toArray, ← hLZ]; rfl
  have HZ := Lib.hid (And.intro (show (Tryd.prog.info? 34).map (·.size) = some LZ.toArray.size by rw [hlz]; exact info_msg) (And.intro (show LZ.toArray.all (·.oneCell') = true by rw [← hLZ]; exact mgL_one _ _) hlz)); clear hlz
  have hl0 : L0.toArray.size = 45 := by rw [List.size_toArray, ← hL0]; rfl
  have HI0 := Lib.hid (And.intro (show (Tryd.prog.info? 34).map (·.size) = some L0.toArray.size by rw [hl0]; exact info_msg) (And.intro (show L0.toArray.all (·.oneCell') = true by rw [← hL0]; exact mgL_one _ _) hl0)); clear hl0
  clear hL0 hLZ
  have HV := Lib.hid (And.intro hv hy)
  clear hv
  go_enter Tryd.func28, Tryd.ntmps28
  go_upto_region 2 with (first
    | (with_reducible refine wpList_build_mk k 11 HL.out.1 rfl rfl rfl ?_)
    | (with_reducible refine wpList_store_mid rfl 34 _ _ rfl (w.heap.size + 1) 0 L0.toArray rfl rfl (there_row (heap_alloc_2 w _ _) (by rw [HI0.out.2.2]; exact Nat.le_of_ble_eq_true rfl)) HI0.out.1 HI0.out.2.1 ?_))
  generalize hV : World.setCells _ _ _ _ = V
  have hT : TwoM w V L0 := by
    have hr0 : ∃ C : Array Value, C.size = 45 ∧ V.heap[w.heap.size]? = some (.cells C 34 (0, 0)) := ⟨_, rfl, by
      rw [← hV, World.heap_setCells_other _ _ _ _ (by simp; omega) (by simp)]
      exact (Below.heap_alloc _ _ _ (by simp)).trans (heap_alloc_new w _)⟩
    refine ⟨?_, hr0, ?_⟩
    · rw [← hV]; exact heap_setCells_all (heap_alloc_2 w _ _) (by have := HI0.out.2.2; simpa using this)
    · rw [← hV]; exact (((Below.refl _ _).alloc (Nat.le_refl _) _).alloc (by simp) _).trans (Lib.below_setCells_w (by omega) _ _ _)
  clear hV
  have HT := Lib.hid hT; clear hT
  by_cases h1 : k = 1
  · have hk := h1
    have e1 : (k == 1) = true := by rw [hk]; rfl
    have hOut : O = some ⟨k, y, Pl.zeroS, 0, 0⟩ := by rw [← HO.out]; unfold Pl.readM; rw [if_pos (by omega)]
    have hfz : V.frozen? ⟨w.heap.size + 1, 1, none⟩ = false := frozen_of V _ _ _ _ HT.out.m
    have hcz : V.cell? ⟨w.heap.size + 1, 1, none⟩ = some (.string ⟨#[]⟩) := by rw [cell_row V _ 1 _ _ HT.out.m, ← HL.out.1]; rfl
    have hT2 := HT.out.set 1 (.string ⟨y.toArray⟩)
    rw [← HL.out.1, put_data] at hT2
    have HT2 := Lib.hid hT2; clear hT2 hk
    obtain ⟨L1, hL1⟩ : ∃ L, mgL (⟨k, y, Pl.zeroS, 0, 0⟩ : Pl.Msg) cx0 = L := ⟨_, rfl⟩
    have hE := twoM_end (show TwoM w _ (mgL ⟨k, y, Pl.zeroS, 0, 0⟩ cx0) from HT2.out) rfl
    rw [hL1] at hE
    have HE := Lib.hid hE; clear hE
    have HR := Lib.hid (And.intro hL1 hOut); clear hL1 hOut
    go_wp2_with (first
      | (with_reducible refine wpList_load_mid rfl 34 _ rfl (w.heap.size + 1) 0 rfl L1 _ HE.out.r Tryd.underlying34 rfl HE.out.i ?_)
      | (with_reducible refine wpList_store_mid rfl 34 _ _ rfl w.heap.size 0 L1.toArray rfl rfl HE.out.t HE.out.j HE.out.o ?_))
    refine bodyPost_ret (results_cell2 (cs := L1) rfl rfl (World.rangeAt_setCells_same _ _ _ _ (by simpa using HE.out.t)) Tryd.underlying34 rfl HE.out.i) rfl ?_
    exact ⟨_, rfl, ⟨cx0, by rw [HR.out.2, ← HR.out.1]; rfl, by rw [HR.out.2]; exact ok_zero _, cxNew_zero _⟩, HE.out.b⟩
  by_cases h2 : k = 2
  · have hk := h2
    have e1 : (k == 1) = false := by rw [beq_eq_false_iff_ne]; omega
    have e2 : (k == 2) = true := by rw [hk]; rfl
    have hOut : O = some ⟨k, y, Pl.zeroS, 0, 0⟩ := by rw [← HO.out]; unfold Pl.readM; rw [if_pos (by omega)]
    have hfz : V.frozen? ⟨w.heap.size + 1, 1, none⟩ = false := frozen_of V _ _ _ _ HT.out.m
    have hcz : V.cell? ⟨w.heap.size + 1, 1, none⟩ = some (.string ⟨#[]⟩) := by rw [cell_row V _ 1 _ _ HT.out.m, ← HL.out.1]; rfl
    have hT2 := HT.out.set 1 (.string ⟨y.toArray⟩)
    rw [← HL.out.1, put_data] at hT2
    have HT2 := Lib.hid hT2; clear hT2 hk
    obtain ⟨L1, hL1⟩ : ∃ L, mgL (⟨k, y, Pl.zeroS, 0, 0⟩ : Pl.Msg) cx0 = L := ⟨_, rfl⟩
    have hE := twoM_end (show TwoM w _ (mgL ⟨k, y, Pl.zeroS, 0, 0⟩ cx0) from HT2.out) rfl
    rw [hL1] at hE
    have HE := Lib.hid hE; clear hE
    have HR := Lib.hid (And.intro hL1 hOut); clear hL1 hOut
    go_wp2_with (first
      | (with_reducible refine wpList_load_mid rfl 34 _ rfl (w.heap.size + 1) 0 rfl L1 _ HE.out.r Tryd.underlying34 rfl HE.out.i ?_)
      | (with_reducible refine wpList_store_mid rfl 34 _ _ rfl w.heap.size 0 L1.toArray rfl rfl HE.out.t HE.out.j HE.out.o ?_))
    refine bodyPost_ret (results_cell2 (cs := L1) rfl rfl (World.rangeAt_setCells_same _ _ _ _ (by simpa using HE.out.t)) Tryd.underlying34 rfl HE.out.i) rfl ?_
    exact ⟨_, rfl, ⟨cx0, by rw [HR.out.2, ← HR.out.1]; rfl, by rw [HR.out.2]; exact ok_zero _, cxNew_zero _⟩, HE.out.b⟩
  by_cases h3 : k = 3
  · have hk := h3
    have e1 : (k == 1) = false := by rw [beq_eq_false_iff_ne]; omega
    have e2 : (k == 2) = false := by rw [beq_eq_false_iff_ne]; omega
    have e3 : (k == 3) = true := by rw [hk]; rfl
    have hof := fun W h => mfof_any y W HV.out.2 h
    have hcs := Pl.mof_case y
    have hO3 : O = if (Pl.mof y).2 = 0 then some ⟨k, [], (Pl.mof y).1, 0, 0⟩ else none := by rw [← HO.out]; unfold Pl.readM; rw [if_neg (by omega), if_pos hk]
    unfold MOfOut at hof
    obtain ⟨⟨s, e⟩, hse⟩ : ∃ x, Pl.mof y = x := ⟨_, rfl⟩
    rw [hse] at hof hcs hO3
    simp only at hof hO3
    have hss : s.sum.length = 32 := by
      rcases hcs with ⟨s', h1, h2, h3, h4⟩ | ⟨e', h1, h2⟩
      · injection h1 with h1 _; rw [h1]; exact h3
      · injection h1 with h1 _; rw [h1]; rfl
    have HH := Lib.hid (And.intro hof (And.intro hO3 hss))
    clear hof hcs hO3 hse hss hk
    go_wp2_with fail
    (with_reducible refine (HH.out.1 _ (HV.out.1.keep HT.out.b (Nat.le_refl _))).mono ?_)
    rintro en w1 ⟨v, rfl, ⟨X', rfl, hok1, hnew⟩, hb1⟩
    have hT1 := HT.out.below hb1
    obtain ⟨SL, hSL⟩ : ∃ L, snL s X' = L := ⟨_, rfl⟩
    rw [hSL]
    have hsl : SL.toArray.size = 41 := by rw [List.size_toArray, ← hSL]; exact snL_len hok1
    have hso : SL.toArray.all (·.oneCell') = true := all_oneCell_toArray (by rw [← hSL]; exact snL_one _ _)
    have hsi : (Tryd.prog.info? 31).map (·.size) = some SL.toArray.size := by rw [hsl]; exact info_snap
    have hsj : (Tryd.prog.info? 31).map (·.size) = some SL.length := by rw [← List.size_toArray, hsl]; exact info_snap
    have HSL := Lib.hid (And.intro hSL (And.intro hso (And.intro hsi (And.intro hsl hsj)))); clear hSL hso hsi hsl hsj
    have HT1 := Lib.hid hT1
    have HOK := Lib.hid hok1
    have HNW := Lib.hid (And.intro hnew (show w.heap.size + 1 < V.heap.size from blk_lt HT.out.m))
    clear hT1 hok1 hb1 hnew
    go_upto_region 8 with (with_reducible refine wpList_store_mid rfl 31 _ _ rfl w1.heap.size 0 SL.toArray rfl rfl (there_row (heap_alloc_new _ _) (by rw [HSL.out.2.2.2.1]; exact Nat.le_of_ble_eq_true rfl)) HSL.out.2.2.1 HSL.out.2.1 ?_)
    generalize hW2 : World.setCells _ _ _ _ = w2
    have hb2 : Below w1.heap.size w1 w2 := by rw [← hW2]; exact ((Below.refl _ _).alloc (Nat.le_refl _) _).trans (Lib.below_setCells_w (Nat.le_refl _) _ _ _)
    have hr2 : w2.rangeAt w1.heap.size 0 SL := by
      rw [← hW2]
      refine World.rangeAt_setCells_same _ _ _ _ (there_row (heap_alloc_new _ _) ?_)
      rw [show SL.toArray.toList.length = 41 by have := HSL.out.2.2.2.1; simpa using this]; exact Nat.le_of_ble_eq_true rfl
    clear hW2
    have HT2 := Lib.hid (HT1.out.below hb2)
    have HOK2 := Lib.hid (HOK.out.below hb2)
    clear hb2
    by_cases he : e = 0
    · subst he
      have hOut : O = some ⟨k, [], s, 0, 0⟩ := by rw [HH.out.2.1, if_pos rfl]
      have hsj := HSL.out.2.2.2.2
      have hth2 : w2.there (w.heap.size + 1) 2 SL.toArray.size := there_sub (n := 45) (there_row HT2.out.m (by rw [HI0.out.2.2]; exact Nat.le_refl _)) (by rw [HSL.out.2.2.2.1]; exact Nat.le_of_ble_eq_true rfl)
      have HTH := Lib.hid hth2
      obtain ⟨L1, hL1⟩ : ∃ L, mgL (⟨k, [], s, 0, 0⟩ : Pl.Msg) X' = L := ⟨_, rfl⟩
      have hE : EndM w (w2.setCells (w.heap.size + 1) 2 SL.toArray.toList) L1 := by
        rw [← hL1]
        obtain ⟨C, h1, h2⟩ := HT2.out.r
        refine endM_of ?_ ⟨C, h1, by rw [World.heap_setCells_other _ _ _ _ (blk_lt h2) (by simp)]; exact h2⟩ (HT2.out.b.trans (Lib.below_setCells_w (by omega) _ _ _)) HH.out.2.2
        have hx : Mg w2 (w.heap.size + 1) (msgK k) cx0 := mg_row (m := msgK k) rfl (by rw [HL.out.1]; exact HT2.out.m)
        have hlz : SL.toArray.toList.length = 41 := by have := HSL.out.2.2.2.1; simpa using this
        have ra : w2.rangeAt (w.heap.size + 1) 0 [.int .i64 k, .string ⟨#[]⟩] := fun j v hv => hx.all j v (by
          show (([.int .i64 k, .string ⟨#[]⟩] : List Value) ++ (snL Pl.zeroS cx0 ++ [.int .i64 0, .int .i64 0]))[j]? = some v
          rw [List.getElem?_append_left (List.getElem?_eq_some_iff.1 hv).1]; exact hv)
        have rb : w2.rangeAt (w.heap.size + 1) (2 + 41) [.int .i64 0, .int .i64 0] := fun j v hv => by
          rcases j with _ | _ | j
          · rw [← hv]; exact hx.n
          · rw [← hv]; exact hx.why
          · cases hv
        refine range_append (xs := [.int .i64 k, .string ⟨#[]⟩]) ?_ (range_append (xs := snL s X') ?_ ?_)
        · exact World.rangeAt_setCells_apart ra _ _ _ (.inr (.inl (by simp)))
        · rw [HSL.out.1]
          exact World.rangeAt_setCells_same _ _ _ _ (by simpa using HTH.out)
        · have e : 0 + [Value.int .i64 k, .string ⟨#[]⟩].length + (snL s X').length = 2 + 41 := by
            rw [HSL.out.1]; have : SL.length = 41 := by simpa using hlz
            simp [this]
          rw [e]
          exact World.rangeAt_setCells_apart rb _ _ _ (.inr (.inr (by rw [hlz]; exact Nat.le_refl _)))
      have HE := Lib.hid hE; clear hE
      have HR := Lib.hid (And.intro hL1 hOut); clear hL1 hOut
      go_wp2_with (first
        | (with_reducible refine wpList_load_mid rfl 31 _ rfl w1.heap.size 0 rfl SL _ hr2 Tryd.underlying31 rfl hsj ?_)
        | (with_reducible refine wpList_store_mid rfl 31 _ _ rfl (w.heap.size + 1) 2 SL.toArray rfl rfl HTH.out HSL.out.2.2.1 HSL.out.2.1 ?_)
        | (with_reducible refine wpList_load_mid rfl 34 _ rfl (w.heap.size + 1) 0 rfl L1 _ HE.out.r Tryd.underlying34 rfl HE.out.i ?_)
        | (with_reducible refine wpList_store_mid rfl 34 _ _ rfl w.heap.size 0 L1.toArray rfl rfl HE.out.t HE.out.j HE.out.o ?_))
      refine bodyPost_ret (results_cell2 (cs := L1) rfl rfl (World.rangeAt_setCells_same _ _ _ _ (by simpa using HE.out.t)) Tryd.underlying34 rfl HE.out.i) rfl ?_
      exact ⟨_, rfl, ⟨X', by rw [HR.out.2, ← HR.out.1]; rfl, by
        rw [HR.out.2]
        exact snOk_setCells (by have := HNW.out.2; omega) HNW.out.1 _ _ _ (snOk_setCells HNW.out.2 HNW.out.1 _ _ _ HOK2.out), HNW.out.1.mono (by have := HNW.out.2; omega)⟩, HE.out.b⟩
    · have t1 : ((e : Int) == 0) = false := by rw [beq_eq_false_iff_ne]; omega
      have t1' : ((e : Int) != 0) = true := by unfold bne; rw [t1]; rfl
      have hOut : O = none := by rw [HH.out.2.1, if_neg he]
      have hth : w2.there w.heap.size 0 LZ.toArray.size := by
        obtain ⟨C, h1, h2⟩ := (HT2.out).r
        exact there_row h2 (by rw [h1, HZ.out.2.2]; exact Nat.le_refl _)
      have hbz := (HT2.out).b.trans (Lib.below_setCells_w (B := w.heap.size) (g := w.heap.size) (Nat.le_refl _) LZ.toArray.toList 0 w2)
      have HB := Lib.hid hbz; clear hbz
      have HOut := Lib.hid hOut; clear hOut
      go_wp2_with (first
        | (with_reducible refine wpList_build_m0 HL.out.2 rfl rfl ?_)
        | (with_reducible refine wpList_store_mid rfl 34 _ _ rfl w.heap.size 0 LZ.toArray rfl rfl hth HZ.out.1 HZ.out.2.1 ?_))
      refine bodyPost_ret (results_cell2 (cs := LZ) rfl rfl (World.rangeAt_setCells_same _ _ _ _ (by simpa using hth)) Tryd.underlying34 rfl (by have := HZ.out.1; simpa using this)) rfl ?_
      exact ⟨_, rfl, ⟨cx0, by rw [HOut.out, ← HL.out.2]; rfl, by rw [HOut.out]; exact ok_zero _, cxNew_zero _⟩, HB.out⟩
  by_cases h4 : k = 4
  · have hk := h4
    have e1 : (k == 1) = false := by rw [beq_eq_false_iff_ne]; omega
    have e2 : (k == 2) = false := by rw [beq_eq_false_iff_ne]; omega
    have e3 : (k == 3) = false := by rw [beq_eq_false_iff_ne]; omega
    have e4 : (k == 4) = true := by rw [hk]; rfl
    have hint := fun W h => int_any y W HV.out.2 h
    have hO4 : O = Pl.readI k (fun v => ⟨k, [], Pl.zeroS, v, 0⟩) (Pl.intQ y) := by rw [← HO.out]; unfold Pl.readM; rw [if_neg (by omega), if_neg (by omega), if_pos hk]
    obtain ⟨q, hq⟩ : ∃ q, Pl.intQ y = q := ⟨_, rfl⟩
    rw [hq] at hint hO4
    have HH := Lib.hid (And.intro hint hO4)
    clear hint hO4 hq hk
    go_wp2_with fail
    (with_reducible refine (HH.out.1 _ (HV.out.1.keep HT.out.b (Nat.le_refl _))).mono ?_)
    rintro en w1 ⟨v, rfl, rfl, hb1⟩
    have hT1 := HT.out.below hb1
    have HT1 := Lib.hid hT1; clear hT1 hb1
    cases q with
    | none =>
      have hOut : O = none := HH.out.2
      unfold intV
      have hth : w1.there w.heap.size 0 LZ.toArray.size := by
        obtain ⟨C, h1, h2⟩ := (HT1.out).r
        exact there_row h2 (by rw [h1, HZ.out.2.2]; exact Nat.le_refl _)
      have hbz := (HT1.out).b.trans (Lib.below_setCells_w (B := w.heap.size) (g := w.heap.size) (Nat.le_refl _) LZ.toArray.toList 0 w1)
      have HB := Lib.hid hbz; clear hbz
      have HOut := Lib.hid hOut; clear hOut
      go_wp2_with (first
        | (with_reducible refine wpList_build_m0 HL.out.2 rfl rfl ?_)
        | (with_reducible refine wpList_store_mid rfl 34 _ _ rfl w.heap.size 0 LZ.toArray rfl rfl hth HZ.out.1 HZ.out.2.1 ?_))
      refine bodyPost_ret (results_cell2 (cs := LZ) rfl rfl (World.rangeAt_setCells_same _ _ _ _ (by simpa using hth)) Tryd.underlying34 rfl (by have := HZ.out.1; simpa using this)) rfl ?_
      exact ⟨_, rfl, ⟨cx0, by rw [HOut.out, ← HL.out.2]; rfl, by rw [HOut.out]; exact ok_zero _, cxNew_zero _⟩, HB.out⟩
    | some v =>
      have hOut : O = some ⟨k, [], Pl.zeroS, v, 0⟩ := HH.out.2
      unfold intV
      have hfz : w1.frozen? ⟨w.heap.size + 1, 43, none⟩ = false := frozen_of w1 _ _ _ _ HT1.out.m
      have hcz : w1.cell? ⟨w.heap.size + 1, 43, none⟩ = some (.int .i64 0) := by rw [cell_row w1 _ 43 _ _ HT1.out.m, ← HL.out.1]; rfl
      have hT2 := HT1.out.set 43 (.int .i64 v)
      rw [← HL.out.1, put_n _ _ _ rfl] at hT2
      have HT2 := Lib.hid hT2; clear hT2
      obtain ⟨L1, hL1⟩ : ∃ L, mgL (⟨k, [], Pl.zeroS, v, 0⟩ : Pl.Msg) cx0 = L := ⟨_, rfl⟩
      have hE := twoM_end (show TwoM w _ (mgL ⟨k, [], Pl.zeroS, v, 0⟩ cx0) from HT2.out) rfl
      rw [hL1] at hE
      have HE := Lib.hid hE; clear hE
      have HR := Lib.hid (And.intro hL1 hOut); clear hL1 hOut
      go_wp2_with (first
        | (with_reducible refine wpList_load_mid rfl 34 _ rfl (w.heap.size + 1) 0 rfl L1 _ HE.out.r Tryd.underlying34 rfl HE.out.i ?_)
        | (with_reducible refine wpList_store_mid rfl 34 _ _ rfl w.heap.size 0 L1.toArray rfl rfl HE.out.t HE.out.j HE.out.o ?_))
      refine bodyPost_ret (results_cell2 (cs := L1) rfl rfl (World.rangeAt_setCells_same _ _ _ _ (by simpa using HE.out.t)) Tryd.underlying34 rfl HE.out.i) rfl ?_
      exact ⟨_, rfl, ⟨cx0, by rw [HR.out.2, ← HR.out.1]; rfl, by rw [HR.out.2]; exact ok_zero _, cxNew_zero _⟩, HE.out.b⟩
  by_cases h5 : k = 5
  · have hk := h5
    have e1 : (k == 1) = false := by rw [beq_eq_false_iff_ne]; omega
    have e2 : (k == 2) = false := by rw [beq_eq_false_iff_ne]; omega
    have e3 : (k == 3) = false := by rw [beq_eq_false_iff_ne]; omega
    have e4 : (k == 4) = false := by rw [beq_eq_false_iff_ne]; omega
    have e5 : (k == 5) = true := by rw [hk]; rfl
    have hint := fun W h => int_any y W HV.out.2 h
    have hO4 : O = Pl.readI k (fun v => ⟨k, [], Pl.zeroS, 0, v⟩) (Pl.intQ y) := by rw [← HO.out]; unfold Pl.readM; rw [if_neg (by omega), if_neg (by omega), if_neg (by omega), if_pos hk]
    obtain ⟨q, hq⟩ : ∃ q, Pl.intQ y = q := ⟨_, rfl⟩
    rw [hq] at hint hO4
    have HH := Lib.hid (And.intro hint hO4)
    clear hint hO4 hq hk
    go_wp2_with fail
    (with_reducible refine (HH.out.1 _ (HV.out.1.keep HT.out.b (Nat.le_refl _))).mono ?_)
    rintro en w1 ⟨v, rfl, rfl, hb1⟩
    have hT1 := HT.out.below hb1
    have HT1 := Lib.hid hT1; clear hT1 hb1
    cases q with
    | none =>
      have hOut : O = none := HH.out.2
      unfold intV
      have hth : w1.there w.heap.size 0 LZ.toArray.size := by
        obtain ⟨C, h1, h2⟩ := (HT1.out).r
        exact there_row h2 (by rw [h1, HZ.out.2.2]; exact Nat.le_refl _)
      have hbz := (HT1.out).b.trans (Lib.below_setCells_w (B := w.heap.size) (g := w.heap.size) (Nat.le_refl _) LZ.toArray.toList 0 w1)
      have HB := Lib.hid hbz; clear hbz
      have HOut := Lib.hid hOut; clear hOut
      go_wp2_with (first
        | (with_reducible refine wpList_build_m0 HL.out.2 rfl rfl ?_)
        | (with_reducible refine wpList_store_mid rfl 34 _ _ rfl w.heap.size 0 LZ.toArray rfl rfl hth HZ.out.1 HZ.out.2.1 ?_))
      refine bodyPost_ret (results_cell2 (cs := LZ) rfl rfl (World.rangeAt_setCells_same _ _ _ _ (by simpa using hth)) Tryd.underlying34 rfl (by have := HZ.out.1; simpa using this)) rfl ?_
      exact ⟨_, rfl, ⟨cx0, by rw [HOut.out, ← HL.out.2]; rfl, by rw [HOut.out]; exact ok_zero _, cxNew_zero _⟩, HB.out⟩
    | some v =>
      have hOut : O = some ⟨k, [], Pl.zeroS, 0, v⟩ := HH.out.2
      unfold intV
      have hfz : w1.frozen? ⟨w.heap.size + 1, 44, none⟩ = false := frozen_of w1 _ _ _ _ HT1.out.m
      have hcz : w1.cell? ⟨w.heap.size + 1, 44, none⟩ = some (.int .i64 0) := by rw [cell_row w1 _ 44 _ _ HT1.out.m, ← HL.out.1]; rfl
      have hT2 := HT1.out.set 44 (.int .i64 v)
      rw [← HL.out.1, put_why _ _ _ rfl] at hT2
      have HT2 := Lib.hid hT2; clear hT2
      obtain ⟨L1, hL1⟩ : ∃ L, mgL (⟨k, [], Pl.zeroS, 0, v⟩ : Pl.Msg) cx0 = L := ⟨_, rfl⟩
      have hE := twoM_end (show TwoM w _ (mgL ⟨k, [], Pl.zeroS, 0, v⟩ cx0) from HT2.out) rfl
      rw [hL1] at hE
      have HE := Lib.hid hE; clear hE
      have HR := Lib.hid (And.intro hL1 hOut); clear hL1 hOut
      go_wp2_with (first
        | (with_reducible refine wpList_load_mid rfl 34 _ rfl (w.heap.size + 1) 0 rfl L1 _ HE.out.r Tryd.underlying34 rfl HE.out.i ?_)
        | (with_reducible refine wpList_store_mid rfl 34 _ _ rfl w.heap.size 0 L1.toArray rfl rfl HE.out.t HE.out.j HE.out.o ?_))
      refine bodyPost_ret (results_cell2 (cs := L1) rfl rfl (World.rangeAt_setCells_same _ _ _ _ (by simpa using HE.out.t)) Tryd.underlying34 rfl HE.out.i) rfl ?_
      exact ⟨_, rfl, ⟨cx0, by rw [HR.out.2, ← HR.out.1]; rfl, by rw [HR.out.2]; exact ok_zero _, cxNew_zero _⟩, HE.out.b⟩
  have e1 : (k == 1) = false := by rw [beq_eq_false_iff_ne]; omega
  have e2 : (k == 2) = false := by rw [beq_eq_false_iff_ne]; omega
  have e3 : (k == 3) = false := by rw [beq_eq_false_iff_ne]; omega
  have e4 : (k == 4) = false := by rw [beq_eq_false_iff_ne]; omega
  have e5 : (k == 5) = false := by rw [beq_eq_false_iff_ne]; omega
  have hOut : O = some ⟨k, [], Pl.zeroS, 0, 0⟩ := by rw [← HO.out]; unfold Pl.readM; rw [if_neg (by omega), if_neg h3, if_neg h4, if_neg h5]
  obtain ⟨L1, hL1⟩ : ∃ L, mgL (⟨k, [], Pl.zeroS, 0, 0⟩ : Pl.Msg) cx0 = L := ⟨_, rfl⟩
  have hE := twoM_end (show TwoM w V (mgL ⟨k, [], Pl.zeroS, 0, 0⟩ cx0) from (by rw [show mgL ⟨k, [], Pl.zeroS, 0, 0⟩ cx0 = L0 from HL.out.1]; exact HT.out)) rfl
  rw [hL1] at hE
  have HE := Lib.hid hE; clear hE
  have HR := Lib.hid (And.intro hL1 hOut); clear hL1 hOut
  go_wp2_with (first
    | (with_reducible refine wpList_load_mid rfl 34 _ rfl (w.heap.size + 1) 0 rfl L1 _ HE.out.r Tryd.underlying34 rfl HE.out.i ?_)
    | (with_reducible refine wpList_store_mid rfl 34 _ _ rfl w.heap.size 0 L1.toArray rfl rfl HE.out.t HE.out.j HE.out.o ?_))
  refine bodyPost_ret (results_cell2 (cs := L1) rfl rfl (World.rangeAt_setCells_same _ _ _ _ (by simpa using HE.out.t)) Tryd.underlying34 rfl HE.out.i) rfl ?_
  exact ⟨_, rfl, ⟨cx0, by rw [HR.out.2, ← HR.out.1]; rfl, by rw [HR.out.2]; exact ok_zero _, cxNew_zero _⟩, HE.out.b⟩
end Go.Proofs.YtadoplgmeoghmaaDoor
