/- The walk of the document's Get of messages: what wire's Get tells. -/
import Derived.Test.YtommlolhpaeioaaDoorWireG
import Derived.Test.YtommlolhpaeioaaDoorRefB
import Derived.Test.YtommlolhpaeioaaDoorRofA
import Derived.Deep.CutBlock
import Derived.Deep.CutRange
namespace Go.Proofs.YtommlolhpaeioaaDoor
open Go.RowKit
set_option linter.unusedVariables false
set_option linter.unusedSimpArgs false
attribute [local go_sem] ba_get ba_cut ba_add
theorem wput_snd (m : Pl.Msg) : (Pl.wput m).2 = Pl.wchk m := by
  by_cases h : Pl.wchk m = 0
  · rw [Pl.wput_ok h, h]
  · rw [Pl.wput_no h]
theorem endM_five (b : List UInt8) {n : Int} (h : n < 1 ∨ 23 < n) : Pl.endM b (some ⟨5, [], Pl.zeroS, 0, n⟩) = (Pl.zeroM, 3) := by
  show (if Pl.wput _ = (b, 0) then _ else _) = _
  rw [if_neg]
  intro e
  have h2 : Pl.wchk ⟨5, [], Pl.zeroS, 0, n⟩ = 0 := by rw [← wput_snd, e]
  have h3 := (Pl.wOk_of h2).e
  have e5 : Pl.kindE ⟨5, [], Pl.zeroS, 0, n⟩ = if n < 1 ∨ 23 < n then 1 else 0 := rfl
  rw [e5, if_pos h] at h3
  cases h3
/-- What stands when the message is laid. -/
structure LaidM (b : List UInt8) (w : World) (LZ : List Value) (H : Nat) (k : Int) (y : List UInt8) (m : Pl.Msg) (X : Cx) (W : World) : Prop where
  e : Pl.readM k y = some m
  two : TwoM w W LZ
  z : W.heap[H]? = some (.cells (mgL m X).toArray 31 (0, 0))
  ok : SnOk W m.snap X
  new : CxNew (w.heap.size + 1) X
theorem TwoM.other {w V : World} {L : List Value} (h : TwoM w V L) {H : Nat} (hH : w.heap.size + 1 < H) (i : Nat) (v : Value) : TwoM w (V.setCell ⟨H, i, none⟩ v) L := by
  obtain ⟨C, h1, h2⟩ := h.r
  exact ⟨(Below.heap_setCell _ _ _ _ (by show _ ≠ _; simp; omega)).trans h.m, ⟨C, h1, (Below.heap_setCell _ _ _ _ (by show _ ≠ _; simp; omega)).trans h2⟩, h.b.setCell (p := ⟨H, i, none⟩) (by simp; omega) _⟩
theorem TwoM.others {w V : World} {L : List Value} (h : TwoM w V L) {H : Nat} (hH : w.heap.size + 1 < H) (o : Nat) (vs : List Value) : TwoM w (V.setCells H o vs) L := by
  obtain ⟨C, h1, h2⟩ := h.r
  exact ⟨(World.heap_setCells_other _ _ _ _ (blk_lt h.m) (by omega)).trans h.m, ⟨C, h1, (World.heap_setCells_other _ _ _ _ (blk_lt h2) (by omega)).trans h2⟩, h.b.trans (Lib.below_setCells_w (by omega) _ _ _)⟩
set_option maxRecDepth 100000 in
set_option maxHeartbeats 8000000 in
theorem rget_any44 (b : List UInt8) (w : World) (hs : b.length ≤ 100000000) : Calls Tryd.prog 34 #[.string ⟨b.toArray⟩] w (RetB (GetOut b) w) := by
  obtain ⟨l, e, hl⟩ : ∃ l e, Pl.texts b = (l, e) := ⟨_, _, rfl⟩
  have htx := fun W => rtexts_of b l e hl W (by omega)
  have HT := Lib.hid (And.intro htx (And.intro hl hs)); clear htx hl
  obtain ⟨LZ, hLZ⟩ : ∃ L, mgL Pl.zeroM cx0 = L := ⟨_, rfl⟩
  have HL := Lib.hid hLZ
  have hlz : LZ.toArray.size = 45 := by rw [List.size_toArray, ← hLZ]; rfl
  have HZ := Lib.hid (And.intro (show (Tryd.prog.info? 31).map (·.size) = some LZ.toArray.size by rw [hlz]; exact info_msg) (And.intro (show LZ.toArray.all (·.oneCell') = true by rw [← hLZ]; exact mgL_one _ _) (And.intro hlz (show (Tryd.prog.info? 31).map (·.size) = some LZ.length by rw [← List.size_toArray, hlz]; exact info_msg)))); clear hlz hLZ
  go_enter Tryd.func34, Tryd.ntmps34
  go_upto_region 2 with (first
    | (with_reducible refine wpList_build_m0 HL.out rfl rfl ?_)
    | (with_reducible refine wpList_store_mid rfl 31 _ _ rfl (w.heap.size + 1) 0 LZ.toArray rfl rfl (there_row (heap_alloc_2 w _ _) (by rw [HZ.out.2.2.1]; exact Nat.le_of_ble_eq_true rfl)) HZ.out.1 HZ.out.2.1 ?_))
  generalize hV : World.setCells _ _ _ _ = V
  have hT : TwoM w V LZ := by
    have hr0 : ∃ C : Array Value, C.size = 45 ∧ V.heap[w.heap.size]? = some (.cells C 31 (0, 0)) := ⟨_, rfl, by
      rw [← hV, World.heap_setCells_other _ _ _ _ (by simp; omega) (by simp)]
      exact (Below.heap_alloc _ _ _ (by simp)).trans (heap_alloc_new w _)⟩
    refine ⟨?_, hr0, ?_⟩
    · rw [← hV]; exact heap_setCells_all (heap_alloc_2 w _ _) (by have := HZ.out.2.2.1; simpa using this)
    · rw [← hV]; exact (((Below.refl _ _).alloc (Nat.le_refl _) _).alloc (by simp) _).trans (Lib.below_setCells_w (by omega) _ _ _)
  clear hV
  go_wp2_with fail
  (with_reducible refine (HT.out.1 _).mono ?_)
  rintro en w1 ⟨A, c, rfl, hr1, hb1⟩
  have HT1 := Lib.hid (hT.below hb1)
  clear hb1 hT
  by_cases he : e ≠ 0
  · have hne : ((e : Int) == 0) = false := by rw [beq_eq_false_iff_ne]; omega
    have hne' : ((e : Int) != 0) = true := by unfold bne; rw [hne]; rfl
    have HB := Lib.hid (show Pl.wget b = (Pl.zeroM, 3) by exact Pl.wget_no HT.out.2.1 he)
    have HTB := Lib.hid (HT1.out)
    have hth : w1.there w.heap.size 0 LZ.toArray.size := by
      obtain ⟨C, h1, h2⟩ := HTB.out.r
      exact there_row h2 (by rw [h1, HZ.out.2.2.1]; exact Nat.le_refl _)
    have hrz : w1.rangeAt (w.heap.size + 1) 0 LZ := range_row HTB.out.m
    have hiz := HZ.out.2.2.2
    go_wp2_with (first
      | (with_reducible refine wpList_load_mid rfl 31 _ rfl (w.heap.size + 1) 0 rfl LZ _ hrz Tryd.underlying31 rfl hiz ?_)
      | (with_reducible refine wpList_store_mid rfl 31 _ _ rfl w.heap.size 0 LZ.toArray rfl rfl hth HZ.out.1 HZ.out.2.1 ?_))
    refine bodyPost_ret (results_cell2 (cs := LZ) rfl rfl (World.rangeAt_setCells_same _ _ _ _ (by simpa using hth)) Tryd.underlying31 rfl hiz) rfl ?_
    exact ⟨_, rfl, ⟨cx0, by rw [HB.out, ← HL.out]; rfl, by rw [HB.out]; exact ok_zero _⟩, HTB.out.b.trans (Lib.below_setCells_w (Nat.le_refl _) _ _ _)⟩
  obtain rfl : e = 0 := by omega
  clear he
  have HM := Lib.hid (Pl.wget_ok HT.out.2.1)
  by_cases h2 : l.length = 2
  rotate_left
  · have hne : ((l.length : Int) == 2) = false := by rw [beq_eq_false_iff_ne]; omega
    have hne' : ((l.length : Int) != 2) = true := by unfold bne; rw [hne]; rfl
    have HB := Lib.hid (show Pl.wget b = (Pl.zeroM, 3) by rw [HM.out]; exact Pl.wgetL_len h2)
    have HTB := Lib.hid (HT1.out)
    have hth : w1.there w.heap.size 0 LZ.toArray.size := by
      obtain ⟨C, h1, h2⟩ := HTB.out.r
      exact there_row h2 (by rw [h1, HZ.out.2.2.1]; exact Nat.le_refl _)
    have hrz : w1.rangeAt (w.heap.size + 1) 0 LZ := range_row HTB.out.m
    have hiz := HZ.out.2.2.2
    go_wp2_with (first
      | (with_reducible refine wpList_load_mid rfl 31 _ rfl (w.heap.size + 1) 0 rfl LZ _ hrz Tryd.underlying31 rfl hiz ?_)
      | (with_reducible refine wpList_store_mid rfl 31 _ _ rfl w.heap.size 0 LZ.toArray rfl rfl hth HZ.out.1 HZ.out.2.1 ?_))
    refine bodyPost_ret (results_cell2 (cs := LZ) rfl rfl (World.rangeAt_setCells_same _ _ _ _ (by simpa using hth)) Tryd.underlying31 rfl hiz) rfl ?_
    exact ⟨_, rfl, ⟨cx0, by rw [HB.out, ← HL.out]; rfl, by rw [HB.out]; exact ok_zero _⟩, HTB.out.b.trans (Lib.below_setCells_w (Nat.le_refl _) _ _ _)⟩
  have hmem := fun t ht => text_le (l := l) t ht
  rw [Pl.rowB_texts b l HT.out.2.1] at hmem
  obtain ⟨x0, x1, rfl⟩ : ∃ x0 x1, l = [x0, x1] := by
    match l, h2 with
    | [x0, x1], _ => exact ⟨x0, x1, rfl⟩
  obtain ⟨b1, o1, rfl, hbw, hc⟩ := hr1.all (by simp)
  have c0 : w1.cell? ⟨b1, o1, none⟩ = some (.string ⟨x0.toArray⟩) := hc 0 (by simp [strs])
  have c1 : w1.cell? ⟨b1, o1 + 1, none⟩ = some (.string ⟨x1.toArray⟩) := hc 1 (by simp [strs])
  have HX := Lib.hid (And.intro (show x0.length ≤ b.length from hmem x0 (by simp)) (And.intro (show x1.length ≤ b.length from hmem x1 (by simp)) (And.intro c1 hbw)))
  clear hc hr1 h2 hmem c1 hbw
  have hint := fun W => rint_any x0 W (by have := HX.out.1; have := HT.out.2.2; omega)
  obtain ⟨q, hq⟩ : ∃ q, Pl.intQ x0 = q := ⟨_, rfl⟩
  rw [hq] at hint
  have HQ := Lib.hid (And.intro hint (show Pl.wget b = Pl.wgetQ b x1 q by rw [HM.out, ← hq]; rfl)); clear hint hq
  go_wp2_with fail
  (with_reducible refine (HQ.out.1 _).mono ?_)
  rintro en w2 ⟨v, rfl, rfl, hb2⟩
  have HT2 := Lib.hid (HT1.out.below hb2)
  have c1 : w2.cell? ⟨b1, o1 + 1, none⟩ = some (.string ⟨x1.toArray⟩) := (hb2.cell (p := ⟨b1, o1 + 1, none⟩) HX.out.2.2.2).trans HX.out.2.2.1
  have hbl2 : b1 < w2.heap.size := Nat.lt_of_lt_of_le HX.out.2.2.2 hb2.size
  clear hb2 c0
  unfold intV
  cases q with
  | none =>
    have HB := Lib.hid (show Pl.wget b = (Pl.zeroM, 3) by exact HQ.out.2)
    have HTB := Lib.hid (HT2.out)
    have hth : w2.there w.heap.size 0 LZ.toArray.size := by
      obtain ⟨C, h1, h2⟩ := HTB.out.r
      exact there_row h2 (by rw [h1, HZ.out.2.2.1]; exact Nat.le_refl _)
    have hrz : w2.rangeAt (w.heap.size + 1) 0 LZ := range_row HTB.out.m
    have hiz := HZ.out.2.2.2
    go_wp2_with (first
      | (with_reducible refine wpList_load_mid rfl 31 _ rfl (w.heap.size + 1) 0 rfl LZ _ hrz Tryd.underlying31 rfl hiz ?_)
      | (with_reducible refine wpList_store_mid rfl 31 _ _ rfl w.heap.size 0 LZ.toArray rfl rfl hth HZ.out.1 HZ.out.2.1 ?_))
    refine bodyPost_ret (results_cell2 (cs := LZ) rfl rfl (World.rangeAt_setCells_same _ _ _ _ (by simpa using hth)) Tryd.underlying31 rfl hiz) rfl ?_
    exact ⟨_, rfl, ⟨cx0, by rw [HB.out, ← HL.out]; rfl, by rw [HB.out]; exact ok_zero _⟩, HTB.out.b.trans (Lib.below_setCells_w (Nat.le_refl _) _ _ _)⟩
  | some k =>
    have HK := Lib.hid (show Pl.wget b = if 1 ≤ k ∧ k ≤ 6 then Pl.endM b (Pl.readM k x1) else (Pl.zeroM, 3) from HQ.out.2)
    by_cases k1 : k < 1
    · have hd : decide (k < 1) = true := decide_eq_true k1
      have HB := Lib.hid (show Pl.wget b = (Pl.zeroM, 3) by rw [HK.out, if_neg (by omega)])
      have HTB := Lib.hid (HT2.out)
      have hth : w2.there w.heap.size 0 LZ.toArray.size := by
        obtain ⟨C, h1, h2⟩ := HTB.out.r
        exact there_row h2 (by rw [h1, HZ.out.2.2.1]; exact Nat.le_refl _)
      have hrz : w2.rangeAt (w.heap.size + 1) 0 LZ := range_row HTB.out.m
      have hiz := HZ.out.2.2.2
      go_wp2_with (first
        | (with_reducible refine wpList_load_mid rfl 31 _ rfl (w.heap.size + 1) 0 rfl LZ _ hrz Tryd.underlying31 rfl hiz ?_)
        | (with_reducible refine wpList_store_mid rfl 31 _ _ rfl w.heap.size 0 LZ.toArray rfl rfl hth HZ.out.1 HZ.out.2.1 ?_))
      refine bodyPost_ret (results_cell2 (cs := LZ) rfl rfl (World.rangeAt_setCells_same _ _ _ _ (by simpa using hth)) Tryd.underlying31 rfl hiz) rfl ?_
      exact ⟨_, rfl, ⟨cx0, by rw [HB.out, ← HL.out]; rfl, by rw [HB.out]; exact ok_zero _⟩, HTB.out.b.trans (Lib.below_setCells_w (Nat.le_refl _) _ _ _)⟩
    have hd1' : decide (k < 1) = false := decide_eq_false k1
    by_cases k6 : 6 < k
    · have hd : decide (6 < k) = true := decide_eq_true k6
      have HB := Lib.hid (show Pl.wget b = (Pl.zeroM, 3) by rw [HK.out, if_neg (by omega)])
      have HTB := Lib.hid (HT2.out)
      have hth : w2.there w.heap.size 0 LZ.toArray.size := by
        obtain ⟨C, h1, h2⟩ := HTB.out.r
        exact there_row h2 (by rw [h1, HZ.out.2.2.1]; exact Nat.le_refl _)
      have hrz : w2.rangeAt (w.heap.size + 1) 0 LZ := range_row HTB.out.m
      have hiz := HZ.out.2.2.2
      go_wp2_with (first
        | (with_reducible refine wpList_load_mid rfl 31 _ rfl (w.heap.size + 1) 0 rfl LZ _ hrz Tryd.underlying31 rfl hiz ?_)
        | (with_reducible refine wpList_store_mid rfl 31 _ _ rfl w.heap.size 0 LZ.toArray rfl rfl hth HZ.out.1 HZ.out.2.1 ?_))
      refine bodyPost_ret (results_cell2 (cs := LZ) rfl rfl (World.rangeAt_setCells_same _ _ _ _ (by simpa using hth)) Tryd.underlying31 rfl hiz) rfl ?_
      exact ⟨_, rfl, ⟨cx0, by rw [HB.out, ← HL.out]; rfl, by rw [HB.out]; exact ok_zero _⟩, HTB.out.b.trans (Lib.below_setCells_w (Nat.le_refl _) _ _ _)⟩
    have hd6 : decide (6 < k) = false := decide_eq_false k6
    have hk16 : 1 ≤ k ∧ k ≤ 6 := by omega
    have HKK := Lib.hid (And.intro hk16 (show Pl.wget b = Pl.endM b (Pl.readM k x1) by rw [HK.out, if_pos hk16]))
    obtain ⟨L0, hL0⟩ : ∃ L, mgL (msgK k) cx0 = L := ⟨_, rfl⟩
    have hl0 : L0.toArray.size = 45 := by rw [List.size_toArray, ← hL0]; rfl
    have HL0 := Lib.hid (And.intro hL0 (And.intro (show (Tryd.prog.info? 31).map (·.size) = some L0.toArray.size by rw [hl0]; exact info_msg) (And.intro (show L0.toArray.all (·.oneCell') = true by rw [← hL0]; exact mgL_one _ _) hl0)))
    clear hL0 hl0
    have hwk : IntKind.i64.wrap k = k := by rw [IntKind.wrap_i64]; omega
    go_upto_region 9 with (first
      | (with_reducible refine wpList_build_mk k 48 HL0.out.1 rfl rfl rfl ?_)
      | (with_reducible refine wpList_store_mid rfl 31 _ _ rfl w2.heap.size 0 L0.toArray rfl rfl (there_row (heap_alloc_new _ _) (by rw [HL0.out.2.2.2]; exact Nat.le_of_ble_eq_true rfl)) HL0.out.2.1 HL0.out.2.2.1 ?_))
    generalize hV : World.setCells _ _ _ _ = V3
    have hb3 : Below w2.heap.size w2 V3 := by rw [← hV]; exact ((Below.refl _ _).alloc (Nat.le_refl _) _).trans (Lib.below_setCells_w (Nat.le_refl _) _ _ _)
    have hz3 : V3.heap[w2.heap.size]? = some (.cells L0.toArray 31 (0, 0)) := by rw [← hV]; exact heap_setCells_all (heap_alloc_new _ _) (by have := HL0.out.2.2.2; simpa using this)
    have hT3 := HT2.out.below hb3
    have c3 : V3.cell? ⟨b1, o1 + 1, none⟩ = some (.string ⟨x1.toArray⟩) := (hb3.cell (p := ⟨b1, o1 + 1, none⟩) hbl2).trans c1
    have hbl3 := Nat.lt_of_lt_of_le hbl2 hb3.size
    have hH1 : w.heap.size + 1 < w2.heap.size := blk_lt HT2.out.m
    obtain ⟨H, hH⟩ : ∃ H, w2.heap.size = H := ⟨_, rfl⟩
    rw [hH] at hz3 hH1 ⊢
    clear hV hb3 c1 hH hd1' hd6 k1 k6 hwk hk16
    have hint := fun W => rint_any x1 W (by have := HX.out.2.1; have := HT.out.2.2; omega)
    obtain ⟨q, hq⟩ : ∃ q, Pl.intQ x1 = q := ⟨_, rfl⟩
    rw [hq] at hint
    have HQ1 := Lib.hid (And.intro hint hq); clear hint hq
    go_wp2_with fail
    (with_reducible refine (HQ1.out.1 _).mono ?_)
    rintro en w4 ⟨v, rfl, rfl, hb4⟩
    have HT4 := Lib.hid (hT3.below hb4)
    have hz4 := (hb4.block _ (blk_lt hz3)).trans hz3
    have c4 : w4.cell? ⟨b1, o1 + 1, none⟩ = some (.string ⟨x1.toArray⟩) := (hb4.cell (p := ⟨b1, o1 + 1, none⟩) hbl3).trans c3
    have HZ4 := Lib.hid (And.intro hz4 hH1)
    clear hb4 hT3 c3 hz3 hbl3 hbl2
    obtain ⟨qn, hqn⟩ : ∃ n, q.getD 0 = n := ⟨_, rfl⟩
    obtain ⟨qs, hqs⟩ : ∃ s, q.isSome = s := ⟨_, rfl⟩
    unfold intV
    rw [hqn, hqs]
    have hq5 : qs = true → q = some qn := fun h => by
      cases q with
      | none => rw [← hqs] at h; cases h
      | some n => rw [← hqn]; rfl
    have hq0 : qs = false → q = none := fun h => by
      cases q with
      | none => rfl
      | some n => rw [← hqs] at h; cases h
    have HQ2 := Lib.hid (And.intro hq5 (And.intro hq0 HQ1.out.2)); clear hqn hqs hq5 hq0
    go_upto_block 0 with fail
    go_cut [] from 57 to 100 (fun wx => ∃ (m : Pl.Msg) (X : Cx), LaidM b w LZ H k x1 m X wx)
    case first =>
      by_cases h1 : k = 1
      · have e1 : (k == 1) = true := by rw [h1]; rfl
        have hfz : w4.frozen? ⟨H, 1, none⟩ = false := frozen_of w4 _ _ _ _ HZ4.out.1
        have hcz : w4.cell? ⟨H, 1, none⟩ = some (.string ⟨#[]⟩) := by rw [cell_row w4 _ 1 _ _ HZ4.out.1, ← HL0.out.1]; rfl
        have hz5 := set_at w4 H 1 _ (.string ⟨x1.toArray⟩) _ HZ4.out.1
        rw [List.setIfInBounds_toArray, ← HL0.out.1] at hz5
        rw [put_data] at hz5
        have HLM := Lib.hid (show LaidM b w LZ H k x1 ⟨k, x1, Pl.zeroS, 0, 0⟩ cx0 (w4.setCell ⟨H, 1, none⟩ (.string ⟨x1.toArray⟩)) from ⟨by unfold Pl.readM; rw [if_pos (by omega)], HT4.out.other HZ4.out.2 _ _, hz5, ok_zero _, cxNew_zero _⟩)
        clear hz5
        go_wp2_with fail
        go_meet
        case rel => exact ⟨_, _, HLM.out⟩
      by_cases h2 : k = 2
      · have e1 : (k == 1) = false := by rw [beq_eq_false_iff_ne]; have := HKK.out.1; omega
        have e2 : (k == 2) = true := by rw [h2]; rfl
        have hfz : w4.frozen? ⟨H, 1, none⟩ = false := frozen_of w4 _ _ _ _ HZ4.out.1
        have hcz : w4.cell? ⟨H, 1, none⟩ = some (.string ⟨#[]⟩) := by rw [cell_row w4 _ 1 _ _ HZ4.out.1, ← HL0.out.1]; rfl
        have hz5 := set_at w4 H 1 _ (.string ⟨x1.toArray⟩) _ HZ4.out.1
        rw [List.setIfInBounds_toArray, ← HL0.out.1] at hz5
        rw [put_data] at hz5
        have HLM := Lib.hid (show LaidM b w LZ H k x1 ⟨k, x1, Pl.zeroS, 0, 0⟩ cx0 (w4.setCell ⟨H, 1, none⟩ (.string ⟨x1.toArray⟩)) from ⟨by unfold Pl.readM; rw [if_pos (by omega)], HT4.out.other HZ4.out.2 _ _, hz5, ok_zero _, cxNew_zero _⟩)
        clear hz5
        go_wp2_with fail
        go_meet
        case rel => exact ⟨_, _, HLM.out⟩
      by_cases h3 : k = 3
      · have e1 : (k == 1) = false := by rw [beq_eq_false_iff_ne]; have := HKK.out.1; omega
        have e2 : (k == 2) = false := by rw [beq_eq_false_iff_ne]; have := HKK.out.1; omega
        have e3 : (k == 3) = true := by rw [h3]; rfl
        have hof := fun W => rmof_any x1 W (by have := HX.out.2.1; have := HT.out.2.2; omega)
        have hcs := Pl.mof_case x1
        have hO3 : Pl.readM k x1 = if (Pl.mof x1).2 = 0 then some ⟨k, [], (Pl.mof x1).1, 0, 0⟩ else none := by unfold Pl.readM; rw [if_neg (by omega), if_pos h3]
        have HK3 := Lib.hid h3; clear h3
        unfold MOfOut at hof
        obtain ⟨⟨s, e⟩, hse⟩ : ∃ x, Pl.mof x1 = x := ⟨_, rfl⟩
        rw [hse] at hof hcs hO3
        simp only at hof hO3
        have hss : s.sum.length = 32 := by
          rcases hcs with ⟨s', h1, h2, h3, h4⟩ | ⟨e', h1, h2⟩
          · injection h1 with h1 _; rw [h1]; exact h3
          · injection h1 with h1 _; rw [h1]; rfl
        have HH := Lib.hid (And.intro hof (And.intro hO3 hss))
        clear hof hcs hO3 hse hss
        go_wp2_with fail
        (with_reducible refine (HH.out.1 _).mono ?_)
        rintro en w5 ⟨v, rfl, ⟨X', rfl, hok1, hnew⟩, hb5⟩
        have hT5 := HT4.out.below hb5
        have hz5 := (hb5.block _ (blk_lt HZ4.out.1)).trans HZ4.out.1
        obtain ⟨SL, hSL⟩ : ∃ L, snL s X' = L := ⟨_, rfl⟩
        rw [hSL]
        have hsl : SL.toArray.size = 41 := by rw [List.size_toArray, ← hSL]; exact snL_len hok1
        have hso : SL.toArray.all (·.oneCell') = true := all_oneCell_toArray (by rw [← hSL]; exact snL_one _ _)
        have hsi : (Tryd.prog.info? 28).map (·.size) = some SL.toArray.size := by rw [hsl]; exact info_snap
        have hsj : (Tryd.prog.info? 28).map (·.size) = some SL.length := by rw [← List.size_toArray, hsl]; exact info_snap
        have HSL := Lib.hid (And.intro hSL (And.intro hso (And.intro hsi (And.intro hsl hsj)))); clear hSL hso hsi hsl hsj
        have HNW := Lib.hid (And.intro hnew (blk_lt HZ4.out.1))
        have HT5 := Lib.hid hT5
        have HZ5 := Lib.hid hz5
        have HOK := Lib.hid hok1
        clear hT5 hok1 hb5 hnew hz5
        go_upto_region 16 with (with_reducible refine wpList_store_mid rfl 28 _ _ rfl w5.heap.size 0 SL.toArray rfl rfl (there_row (heap_alloc_new _ _) (by rw [HSL.out.2.2.2.1]; exact Nat.le_of_ble_eq_true rfl)) HSL.out.2.2.1 HSL.out.2.1 ?_)
        generalize hW2 : World.setCells _ _ _ _ = w6
        have hb2 : Below w5.heap.size w5 w6 := by rw [← hW2]; exact ((Below.refl _ _).alloc (Nat.le_refl _) _).trans (Lib.below_setCells_w (Nat.le_refl _) _ _ _)
        have hr2 : w6.rangeAt w5.heap.size 0 SL := by
          rw [← hW2]
          refine World.rangeAt_setCells_same _ _ _ _ (there_row (heap_alloc_new _ _) ?_)
          rw [show SL.toArray.toList.length = 41 by have := HSL.out.2.2.2.1; simpa using this]; exact Nat.le_of_ble_eq_true rfl
        clear hW2
        have HT6 := Lib.hid (HT5.out.below hb2)
        have HZ6 := Lib.hid ((hb2.block _ (blk_lt HZ5.out)).trans HZ5.out)
        have HOK6 := Lib.hid (HOK.out.below hb2)
        clear hb2
        by_cases he : e = 0
        · subst he
          have hO : Pl.readM k x1 = some ⟨k, [], s, 0, 0⟩ := by rw [HH.out.2.1, if_pos rfl]
          have hsj := HSL.out.2.2.2.2
          have hth2 : w6.there H 2 SL.toArray.size := there_sub (n := 45) (there_row HZ6.out (by rw [HL0.out.2.2.2]; exact Nat.le_refl _)) (by rw [HSL.out.2.2.2.1]; exact Nat.le_of_ble_eq_true rfl)
          have hsl : SL.length = 41 := by have := HSL.out.2.2.2.1; simpa using this
          have hz7 := heap_setCells_mid SL 2 w6 L0 HZ6.out (by rw [hsl, show L0.length = 45 by have := HL0.out.2.2.2; simpa using this]; exact Nat.le_of_ble_eq_true rfl)
          have e7 : L0.take 2 ++ SL ++ L0.drop (2 + SL.length) = mgL (⟨k, [], s, 0, 0⟩ : Pl.Msg) X' := by
            rw [hsl, ← HL0.out.1, ← HSL.out.1]; rfl
          rw [e7] at hz7
          have HLM := Lib.hid (show LaidM b w LZ H k x1 ⟨k, [], s, 0, 0⟩ X' (w6.setCells H 2 SL.toArray.toList) from ⟨hO, HT6.out.others HZ4.out.2 _ _, hz7, snOk_setCells HNW.out.2 HNW.out.1 _ _ _ HOK6.out, HNW.out.1.mono (by have := HNW.out.2; have := HZ4.out.2; omega)⟩)
          have HTH := Lib.hid hth2
          clear hz7 e7 hO hth2
          go_wp2_with (first
            | (with_reducible refine wpList_load_mid rfl 28 _ rfl w5.heap.size 0 rfl SL _ hr2 Tryd.underlying28 rfl hsj ?_)
            | (with_reducible refine wpList_store_mid rfl 28 _ _ rfl H 2 SL.toArray rfl rfl HTH.out HSL.out.2.2.1 HSL.out.2.1 ?_))
          go_meet
          case rel => exact ⟨_, _, HLM.out⟩
        have t1 : ((e : Int) == 0) = false := by rw [beq_eq_false_iff_ne]; omega
        have t1' : ((e : Int) != 0) = true := by unfold bne; rw [t1]; rfl
        have HO := Lib.hid (show Pl.readM k x1 = none by rw [HH.out.2.1, if_neg he])
        have HB := Lib.hid (show Pl.wget b = (Pl.zeroM, 3) by rw [HKK.out.2, HO.out]; rfl)
        have HTB := Lib.hid (HT6.out)
        have hth : w6.there w.heap.size 0 LZ.toArray.size := by
          obtain ⟨C, h1, h2⟩ := HTB.out.r
          exact there_row h2 (by rw [h1, HZ.out.2.2.1]; exact Nat.le_refl _)
        have hrz : w6.rangeAt (w.heap.size + 1) 0 LZ := range_row HTB.out.m
        have hiz := HZ.out.2.2.2
        go_wp2_with (first
          | (with_reducible refine wpList_load_mid rfl 31 _ rfl (w.heap.size + 1) 0 rfl LZ _ hrz Tryd.underlying31 rfl hiz ?_)
          | (with_reducible refine wpList_store_mid rfl 31 _ _ rfl w.heap.size 0 LZ.toArray rfl rfl hth HZ.out.1 HZ.out.2.1 ?_))
        refine bodyPost_ret (results_cell2 (cs := LZ) rfl rfl (World.rangeAt_setCells_same _ _ _ _ (by simpa using hth)) Tryd.underlying31 rfl hiz) rfl ?_
        exact ⟨_, rfl, ⟨cx0, by rw [HB.out, ← HL.out]; rfl, by rw [HB.out]; exact ok_zero _⟩, HTB.out.b.trans (Lib.below_setCells_w (Nat.le_refl _) _ _ _)⟩
      by_cases h4 : k = 4
      · have e1 : (k == 1) = false := by rw [beq_eq_false_iff_ne]; have := HKK.out.1; omega
        have e2 : (k == 2) = false := by rw [beq_eq_false_iff_ne]; have := HKK.out.1; omega
        have e3 : (k == 3) = false := by rw [beq_eq_false_iff_ne]; have := HKK.out.1; omega
        have e4 : (k == 4) = true := by rw [h4]; rfl
        have hO4 : Pl.readM k x1 = Pl.readI k (fun qn => ⟨k, [], Pl.zeroS, qn, 0⟩) q := by unfold Pl.readM; rw [if_neg (by omega), if_neg (by omega), if_pos h4, HQ2.out.2.2]
        have HO4 := Lib.hid hO4; clear hO4
        have HKN := Lib.hid h4; clear h4
        cases qs with
        | false =>
          have HO := Lib.hid (show Pl.readM k x1 = none by rw [HO4.out, HQ2.out.2.1 rfl]; rfl)
          have HB := Lib.hid (show Pl.wget b = (Pl.zeroM, 3) by rw [HKK.out.2, HO.out]; rfl)
          have HTB := Lib.hid (HT4.out)
          have hth : w4.there w.heap.size 0 LZ.toArray.size := by
            obtain ⟨C, h1, h2⟩ := HTB.out.r
            exact there_row h2 (by rw [h1, HZ.out.2.2.1]; exact Nat.le_refl _)
          have hrz : w4.rangeAt (w.heap.size + 1) 0 LZ := range_row HTB.out.m
          have hiz := HZ.out.2.2.2
          go_wp2_with (first
            | (with_reducible refine wpList_load_mid rfl 31 _ rfl (w.heap.size + 1) 0 rfl LZ _ hrz Tryd.underlying31 rfl hiz ?_)
            | (with_reducible refine wpList_store_mid rfl 31 _ _ rfl w.heap.size 0 LZ.toArray rfl rfl hth HZ.out.1 HZ.out.2.1 ?_))
          refine bodyPost_ret (results_cell2 (cs := LZ) rfl rfl (World.rangeAt_setCells_same _ _ _ _ (by simpa using hth)) Tryd.underlying31 rfl hiz) rfl ?_
          exact ⟨_, rfl, ⟨cx0, by rw [HB.out, ← HL.out]; rfl, by rw [HB.out]; exact ok_zero _⟩, HTB.out.b.trans (Lib.below_setCells_w (Nat.le_refl _) _ _ _)⟩
        | true =>
          have hO : Pl.readM k x1 = some ⟨k, [], Pl.zeroS, qn, 0⟩ := by rw [HO4.out, HQ2.out.1 rfl]; rfl
          have HO := Lib.hid hO; clear hO
          have hfz : w4.frozen? ⟨H, 43, none⟩ = false := frozen_of w4 _ _ _ _ HZ4.out.1
          have hcz : w4.cell? ⟨H, 43, none⟩ = some (.int .i64 0) := by rw [cell_row w4 _ 43 _ _ HZ4.out.1, ← HL0.out.1]; rfl
          have hz5 := set_at w4 H 43 _ (.int .i64 qn) _ HZ4.out.1
          rw [List.setIfInBounds_toArray, ← HL0.out.1] at hz5
          rw [put_n _ _ _ rfl] at hz5
          have HLM := Lib.hid (show LaidM b w LZ H k x1 ⟨k, [], Pl.zeroS, qn, 0⟩ cx0 (w4.setCell ⟨H, 43, none⟩ (.int .i64 qn)) from ⟨HO.out, HT4.out.other HZ4.out.2 _ _, hz5, ok_zero _, cxNew_zero _⟩)
          clear hz5
          go_wp2_with fail
          go_meet
          case rel => exact ⟨_, _, HLM.out⟩
      by_cases h5 : k = 5
      · have e1 : (k == 1) = false := by rw [beq_eq_false_iff_ne]; have := HKK.out.1; omega
        have e2 : (k == 2) = false := by rw [beq_eq_false_iff_ne]; have := HKK.out.1; omega
        have e3 : (k == 3) = false := by rw [beq_eq_false_iff_ne]; have := HKK.out.1; omega
        have e4 : (k == 4) = false := by rw [beq_eq_false_iff_ne]; have := HKK.out.1; omega
        have e5 : (k == 5) = true := by rw [h5]; rfl
        have hO4 : Pl.readM k x1 = Pl.readI k (fun qn => ⟨k, [], Pl.zeroS, 0, qn⟩) q := by unfold Pl.readM; rw [if_neg (by omega), if_neg (by omega), if_neg (by omega), if_pos h5, HQ2.out.2.2]
        have HO4 := Lib.hid hO4; clear hO4
        have HKN := Lib.hid h5; clear h5
        cases qs with
        | false =>
          have HO := Lib.hid (show Pl.readM k x1 = none by rw [HO4.out, HQ2.out.2.1 rfl]; rfl)
          have HB := Lib.hid (show Pl.wget b = (Pl.zeroM, 3) by rw [HKK.out.2, HO.out]; rfl)
          have HTB := Lib.hid (HT4.out)
          have hth : w4.there w.heap.size 0 LZ.toArray.size := by
            obtain ⟨C, h1, h2⟩ := HTB.out.r
            exact there_row h2 (by rw [h1, HZ.out.2.2.1]; exact Nat.le_refl _)
          have hrz : w4.rangeAt (w.heap.size + 1) 0 LZ := range_row HTB.out.m
          have hiz := HZ.out.2.2.2
          go_wp2_with (first
            | (with_reducible refine wpList_load_mid rfl 31 _ rfl (w.heap.size + 1) 0 rfl LZ _ hrz Tryd.underlying31 rfl hiz ?_)
            | (with_reducible refine wpList_store_mid rfl 31 _ _ rfl w.heap.size 0 LZ.toArray rfl rfl hth HZ.out.1 HZ.out.2.1 ?_))
          refine bodyPost_ret (results_cell2 (cs := LZ) rfl rfl (World.rangeAt_setCells_same _ _ _ _ (by simpa using hth)) Tryd.underlying31 rfl hiz) rfl ?_
          exact ⟨_, rfl, ⟨cx0, by rw [HB.out, ← HL.out]; rfl, by rw [HB.out]; exact ok_zero _⟩, HTB.out.b.trans (Lib.below_setCells_w (Nat.le_refl _) _ _ _)⟩
        | true =>
          have hO : Pl.readM k x1 = some ⟨k, [], Pl.zeroS, 0, qn⟩ := by rw [HO4.out, HQ2.out.1 rfl]; rfl
          have HO := Lib.hid hO; clear hO
          by_cases g1 : qn < 1
          · have hd : decide (qn < 1) = true := decide_eq_true g1
            have HB := Lib.hid (show Pl.wget b = (Pl.zeroM, 3) by rw [HKK.out.2, HO.out, HKN.out]; exact endM_five b (.inl g1))
            have HTB := Lib.hid (HT4.out)
            have hth : w4.there w.heap.size 0 LZ.toArray.size := by
              obtain ⟨C, h1, h2⟩ := HTB.out.r
              exact there_row h2 (by rw [h1, HZ.out.2.2.1]; exact Nat.le_refl _)
            have hrz : w4.rangeAt (w.heap.size + 1) 0 LZ := range_row HTB.out.m
            have hiz := HZ.out.2.2.2
            go_wp2_with (first
              | (with_reducible refine wpList_load_mid rfl 31 _ rfl (w.heap.size + 1) 0 rfl LZ _ hrz Tryd.underlying31 rfl hiz ?_)
              | (with_reducible refine wpList_store_mid rfl 31 _ _ rfl w.heap.size 0 LZ.toArray rfl rfl hth HZ.out.1 HZ.out.2.1 ?_))
            refine bodyPost_ret (results_cell2 (cs := LZ) rfl rfl (World.rangeAt_setCells_same _ _ _ _ (by simpa using hth)) Tryd.underlying31 rfl hiz) rfl ?_
            exact ⟨_, rfl, ⟨cx0, by rw [HB.out, ← HL.out]; rfl, by rw [HB.out]; exact ok_zero _⟩, HTB.out.b.trans (Lib.below_setCells_w (Nat.le_refl _) _ _ _)⟩
          have hd1 : decide (qn < 1) = false := decide_eq_false g1
          by_cases g2 : 23 < qn
          · have hd : decide (23 < qn) = true := decide_eq_true g2
            have HB := Lib.hid (show Pl.wget b = (Pl.zeroM, 3) by rw [HKK.out.2, HO.out, HKN.out]; exact endM_five b (.inr g2))
            have HTB := Lib.hid (HT4.out)
            have hth : w4.there w.heap.size 0 LZ.toArray.size := by
              obtain ⟨C, h1, h2⟩ := HTB.out.r
              exact there_row h2 (by rw [h1, HZ.out.2.2.1]; exact Nat.le_refl _)
            have hrz : w4.rangeAt (w.heap.size + 1) 0 LZ := range_row HTB.out.m
            have hiz := HZ.out.2.2.2
            go_wp2_with (first
              | (with_reducible refine wpList_load_mid rfl 31 _ rfl (w.heap.size + 1) 0 rfl LZ _ hrz Tryd.underlying31 rfl hiz ?_)
              | (with_reducible refine wpList_store_mid rfl 31 _ _ rfl w.heap.size 0 LZ.toArray rfl rfl hth HZ.out.1 HZ.out.2.1 ?_))
            refine bodyPost_ret (results_cell2 (cs := LZ) rfl rfl (World.rangeAt_setCells_same _ _ _ _ (by simpa using hth)) Tryd.underlying31 rfl hiz) rfl ?_
            exact ⟨_, rfl, ⟨cx0, by rw [HB.out, ← HL.out]; rfl, by rw [HB.out]; exact ok_zero _⟩, HTB.out.b.trans (Lib.below_setCells_w (Nat.le_refl _) _ _ _)⟩
          have hd2 : decide (23 < qn) = false := decide_eq_false g2
          have hfz : w4.frozen? ⟨H, 44, none⟩ = false := frozen_of w4 _ _ _ _ HZ4.out.1
          have hcz : w4.cell? ⟨H, 44, none⟩ = some (.int .i64 0) := by rw [cell_row w4 _ 44 _ _ HZ4.out.1, ← HL0.out.1]; rfl
          have hz5 := set_at w4 H 44 _ (.int .i64 qn) _ HZ4.out.1
          rw [List.setIfInBounds_toArray, ← HL0.out.1] at hz5
          rw [put_why _ _ _ rfl] at hz5
          have HLM := Lib.hid (show LaidM b w LZ H k x1 ⟨k, [], Pl.zeroS, 0, qn⟩ cx0 (w4.setCell ⟨H, 44, none⟩ (.int .i64 qn)) from ⟨HO.out, HT4.out.other HZ4.out.2 _ _, hz5, ok_zero _, cxNew_zero _⟩)
          clear hz5
          go_wp2_with fail
          go_meet
          case rel => exact ⟨_, _, HLM.out⟩
      have e1 : (k == 1) = false := by rw [beq_eq_false_iff_ne]; have := HKK.out.1; omega
      have e2 : (k == 2) = false := by rw [beq_eq_false_iff_ne]; have := HKK.out.1; omega
      have e3 : (k == 3) = false := by rw [beq_eq_false_iff_ne]; have := HKK.out.1; omega
      have e4 : (k == 4) = false := by rw [beq_eq_false_iff_ne]; have := HKK.out.1; omega
      have e5 : (k == 5) = false := by rw [beq_eq_false_iff_ne]; have := HKK.out.1; omega
      have HLM := Lib.hid (show LaidM b w LZ H k x1 ⟨k, [], Pl.zeroS, 0, 0⟩ cx0 w4 from ⟨by unfold Pl.readM; rw [if_neg (by omega), if_neg h3, if_neg h4, if_neg h5], HT4.out, by rw [show mgL ⟨k, [], Pl.zeroS, 0, 0⟩ cx0 = L0 from HL0.out.1]; exact HZ4.out.1, ok_zero _, cxNew_zero _⟩)
      go_wp2_with fail
      go_meet
      case rel => exact ⟨_, _, HLM.out⟩
    case rest =>
      obtain ⟨m, X, hLM⟩ := hcut
      have HLM := Lib.hid hLM; clear hLM
      have hm := (Pl.readM_ok HKK.out.1 HLM.out.e).1
      have hfm := readM_fit (by have := HX.out.2.1; have := HT.out.2.2; omega) HLM.out.e
      have hpt := fun W h => rput44_any m X W h hfm hm
      obtain ⟨⟨B, E⟩, hBE⟩ : ∃ x, Pl.wput m = x := ⟨_, rfl⟩
      rw [hBE] at hpt
      have hE0 : Pl.wget b = if (B, E) = (b, 0) then (m, 0) else (Pl.zeroM, 3) := by
        rw [HKK.out.2, HLM.out.e]; show (if Pl.wput m = (b, 0) then (m, 0) else (Pl.zeroM, 3)) = _; rw [hBE]
      have HP := Lib.hid (And.intro hpt hE0); clear hpt hE0 hm hfm hBE
      have hl3 : (mgL m X).toArray.size = 45 := by rw [List.size_toArray]; exact mgL_len HLM.out.ok
      have ho3 := mgL_one m X
      have hr3 := range_row HLM.out.z
      obtain ⟨L3, hL3⟩ : ∃ L, mgL m X = L := ⟨_, rfl⟩
      rw [hL3] at hl3 ho3 hr3
      have H3 := Lib.hid (And.intro hL3 (And.intro hl3 (And.intro ho3 (And.intro (show (Tryd.prog.info? 31).map (·.size) = some L3.toArray.size by rw [hl3]; exact info_msg) (show (Tryd.prog.info? 31).map (·.size) = some L3.length by rw [← List.size_toArray, hl3]; exact info_msg)))))
      clear hL3 hl3 ho3
      have hi3 := H3.out.2.2.2.2
      go_wp2_with (with_reducible refine wpList_load_mid rfl 31 _ rfl H 0 rfl L3 _ hr3 Tryd.underlying31 rfl hi3 ?_)
      rw [← H3.out.1]
      (with_reducible refine (HP.out.1 _ HLM.out.ok).mono ?_)
      rintro en w5 ⟨v, rfl, rfl, hb5⟩
      rw [H3.out.1]
      have HT5 := Lib.hid (HLM.out.two.below hb5)
      have hz5 := (hb5.block _ (blk_lt HLM.out.z)).trans HLM.out.z
      have hr5 := range_row hz5
      rw [H3.out.1] at hr5
      have HOK5 := Lib.hid (HLM.out.ok.below hb5)
      clear hr3 hb5 hz5
      unfold bytesV
      by_cases hE : E ≠ 0
      · have hne : ((E : Int) == 0) = false := by rw [beq_eq_false_iff_ne]; omega
        have hne' : ((E : Int) != 0) = true := by unfold bne; rw [hne]; rfl
        have HB := Lib.hid (show Pl.wget b = (Pl.zeroM, 3) by rw [HP.out.2, if_neg (by intro h; injection h with _ h; exact hE h)])
        have HTB := Lib.hid (HT5.out)
        have hth : w5.there w.heap.size 0 LZ.toArray.size := by
          obtain ⟨C, h1, h2⟩ := HTB.out.r
          exact there_row h2 (by rw [h1, HZ.out.2.2.1]; exact Nat.le_refl _)
        have hrz : w5.rangeAt (w.heap.size + 1) 0 LZ := range_row HTB.out.m
        have hiz := HZ.out.2.2.2
        go_wp2_with (first
          | (with_reducible refine wpList_load_mid rfl 31 _ rfl (w.heap.size + 1) 0 rfl LZ _ hrz Tryd.underlying31 rfl hiz ?_)
          | (with_reducible refine wpList_store_mid rfl 31 _ _ rfl w.heap.size 0 LZ.toArray rfl rfl hth HZ.out.1 HZ.out.2.1 ?_))
        refine bodyPost_ret (results_cell2 (cs := LZ) rfl rfl (World.rangeAt_setCells_same _ _ _ _ (by simpa using hth)) Tryd.underlying31 rfl hiz) rfl ?_
        exact ⟨_, rfl, ⟨cx0, by rw [HB.out, ← HL.out]; rfl, by rw [HB.out]; exact ok_zero _⟩, HTB.out.b.trans (Lib.below_setCells_w (Nat.le_refl _) _ _ _)⟩
      obtain rfl : E = 0 := by omega
      clear hE
      by_cases hBb : B = b
      rotate_left
      · have hne : (B == b) = false := beq_eq_false_iff_ne.2 hBb
        have hne' : (B != b) = true := by unfold bne; rw [hne]; rfl
        have HB := Lib.hid (show Pl.wget b = (Pl.zeroM, 3) by rw [HP.out.2, if_neg (by intro h; injection h with h _; exact hBb h)])
        have HTB := Lib.hid (HT5.out)
        have hth : w5.there w.heap.size 0 LZ.toArray.size := by
          obtain ⟨C, h1, h2⟩ := HTB.out.r
          exact there_row h2 (by rw [h1, HZ.out.2.2.1]; exact Nat.le_refl _)
        have hrz : w5.rangeAt (w.heap.size + 1) 0 LZ := range_row HTB.out.m
        have hiz := HZ.out.2.2.2
        go_wp2_with (first
          | (with_reducible refine wpList_load_mid rfl 31 _ rfl (w.heap.size + 1) 0 rfl LZ _ hrz Tryd.underlying31 rfl hiz ?_)
          | (with_reducible refine wpList_store_mid rfl 31 _ _ rfl w.heap.size 0 LZ.toArray rfl rfl hth HZ.out.1 HZ.out.2.1 ?_))
        refine bodyPost_ret (results_cell2 (cs := LZ) rfl rfl (World.rangeAt_setCells_same _ _ _ _ (by simpa using hth)) Tryd.underlying31 rfl hiz) rfl ?_
        exact ⟨_, rfl, ⟨cx0, by rw [HB.out, ← HL.out]; rfl, by rw [HB.out]; exact ok_zero _⟩, HTB.out.b.trans (Lib.below_setCells_w (Nat.le_refl _) _ _ _)⟩
      subst hBb
      have t : (B == B) = true := by simp
      have t' : (B != B) = false := by simp
      have HG := Lib.hid (show Pl.wget B = (m, 0) by rw [HP.out.2, if_pos rfl])
      have hth : w5.there w.heap.size 0 L3.toArray.size := by
        obtain ⟨C, h1, h2⟩ := HT5.out.r
        exact there_row h2 (by rw [h1, H3.out.2.1]; exact Nat.le_refl _)
      go_wp2_with (first
        | (with_reducible refine wpList_load_mid rfl 31 _ rfl H 0 rfl L3 _ hr5 Tryd.underlying31 rfl hi3 ?_)
        | (with_reducible refine wpList_store_mid rfl 31 _ _ rfl w.heap.size 0 L3.toArray rfl rfl hth H3.out.2.2.2.1 H3.out.2.2.1 ?_))
      refine bodyPost_ret (results_cell2 (cs := L3) rfl rfl (World.rangeAt_setCells_same _ _ _ _ (by simpa using hth)) Tryd.underlying31 rfl hi3) rfl ?_
      exact ⟨_, rfl, ⟨X, by rw [HG.out, ← H3.out.1]; rfl, by rw [HG.out]; exact snOk_setCells (Nat.lt_succ_self _) HLM.out.new _ _ _ HOK5.out⟩, HT5.out.b.trans (Lib.below_setCells_w (Nat.le_refl _) _ _ _)⟩
end Go.Proofs.YtommlolhpaeioaaDoor
