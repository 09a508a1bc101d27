/- The walks of slices.Grow and slices.Concat at texts, and of manifest's Names. -/
import Derived.Test.YtommlolhpaeioaaDoorMf3W
import Derived.Test.YtommlolhpaeioaaDoorOpen
import Derived.Test.YtommlolhpaeioaaDoorLib
import Derived.Lib.OwnBridge
import Derived.Lib.AppendZeros
import Derived.Sort.OwnSorted
namespace Go.Proofs.YtommlolhpaeioaaDoor
open Go.RowKit
set_option linter.unusedVariables false
set_option linter.unusedSimpArgs false
attribute [local go_sem] ba_get ba_cut ba_add
/-- append of n zeros to nil: a row of its own, n elements, with room. -/
theorem append_zeros_nil (n : Nat) (h0 : 0 < n) (h47 : n * 16 ≤ 140737488355328) (w : World) : ∃ (c : Nat) (W : World), (Builtin.append_ #[23, 3] 23 #[.slice none 0 0, .int .i64 (n : Int)]).run Tryd.prog w = .ok (.slice (some ⟨w.heap.size, 0, none⟩) n c) W ∧ n ≤ c ∧ W.ownsRow w.heap.size 9 1 (.slice (some ⟨w.heap.size, 0, none⟩) 0 c) 0 [] ∧ Below w.heap.size w W := by
  obtain ⟨i0, hi0, hz0, hz1, hz2⟩ := info_parts info_str
  have hn : n ≠ 0 := by omega
  have hw : IntKind.i64.wrap (n : Int) = n := by rw [IntKind.wrap_i64]; omega
  have h63' : ¬ (9223372036854775807 < (n : Int)) := by omega
  have h48' : ¬ (281474976710656 < Builtin.nextslicecap n 0 * i0.bytes) := by
    have := growslice_fits (need := n) (old := 0) (bytes := i0.bytes) (by omega) (by rw [hz2]; omega)
    omega
  have h48i : ¬ (281474976710656 < (n : Int) * (i0.bytes : Int)) := by rw [hz2]; omega
  have hneg : ¬ ((n : Int) < 0) := by omega
  have hns : ¬ (n * i0.size = 0) := by rw [hz1]; omega
  have hfit : ¬ (n = 0) := by omega
  refine ⟨grownCap w n 0 9, w.drew.alloc (.cells (Builtin.zeroCells (Value.string ⟨#[]⟩).cells n ++ Builtin.zeroCells (Value.string ⟨#[]⟩).cells (grownCap w n 0 9 - n)) 9), ?_, grownCap_ge w _ _ _, ?_, ?_⟩
  · simp [Builtin.append_, run_underlying Tryd.underlying23, run_underlying Tryd.underlying3, sizeOf, typeInfo, zeroValue, hi0, hz0, asInt, asIntOf, hw, hneg, hns, h63', h48', h48i, hfit, Question.forced, newRow, grownCap, Builtin.firstCells]
  · have h1 := grownCap_le_maxLen w n 0 9 (by unfold maxLen; omega)
    have h2 := grownCap_ge w n 0 9
    refine World.ownsRow_made (base := w.heap.size) (e := 9) (size := 1) w.drew _ _ (by simp) h1 ?_
    rw [Array.size_append, size_zeroCells, size_zeroCells]; show n * 1 + _ * 1 = _; omega
  · exact ((Below.refl _ _).drew).alloc (by simp) _
/-- A slice of its own, of no element yet. -/
def Own0 (base : Nat) (v : Value) (w' : World) : Prop := ∃ A c, v = .slice A 0 c ∧ w'.ownsRow base 9 1 (.slice A 0 c) 0 []
set_option maxRecDepth 100000 in
set_option maxHeartbeats 2000000 in
theorem grow_any (n : Nat) (w : World) (hn : n ≤ 1099511627776) : Calls Tryd.prog 82 #[.slice none 0 0, .int .i64 (n : Int)] w (RetB (Own0 w.heap.size) w) := by
  by_cases h0 : n = 0
  · subst h0
    go_enter Tryd.func82, Tryd.ntmps82
    go_wp2_with fail
    go_ret
    exact ⟨_, rfl, ⟨_, _, rfl, World.ownsRow_nil _ _ _ _⟩, Below.refl _ _⟩
  · obtain ⟨c, W, hr, hc, hown, hb⟩ := append_zeros_nil n (by omega) (by omega) w
    have HO := Lib.hid (And.intro hr (And.intro hown hb)); clear hr hown hb
    have hp : decide ((0 : Int) < (n : Int)) = true := decide_eq_true (by omega)
    go_enter Tryd.func82, Tryd.ntmps82
    go_wp2_with (at_builtin; refine Lib.wpList_append_run _ rfl (.tmp 20) (.tmp 21) 23 3 rfl _ _ rfl rfl _ _ HO.out.1 ?_)
    go_ret
    exact ⟨_, rfl, ⟨_, _, rfl, HO.out.2.1⟩, HO.out.2.2⟩
def sumTo (ss : List SlS) (k : Nat) : Nat := ((ss.map (·.n)).take k).sum
def catTo (ss : List SlS) (k : Nat) : List (List UInt8) := ((ss.map (·.l)).take k).flatten
theorem sumTo_succ (ss : List SlS) (k : Nat) (h : k < ss.length) : sumTo ss (k + 1) = sumTo ss k + ss[k].n := by
  have h' : k < (ss.map (·.n)).length := by simpa using h
  have e : (ss.map (·.n)).take (k + 1) = (ss.map (·.n)).take k ++ [(ss.map (·.n))[k]] := List.take_succ_eq_append_getElem h'
  unfold sumTo; rw [e, List.sum_append]; simp
theorem catTo_succ (ss : List SlS) (k : Nat) (h : k < ss.length) : catTo ss (k + 1) = catTo ss k ++ ss[k].l := by
  have h' : k < (ss.map (·.l)).length := by simpa using h
  have e : (ss.map (·.l)).take (k + 1) = (ss.map (·.l)).take k ++ [(ss.map (·.l))[k]] := List.take_succ_eq_append_getElem h'
  unfold catTo; rw [e, List.flatten_append]; simp
theorem sum_take_le (l : List Nat) (k : Nat) : (l.take k).sum ≤ l.sum := by
  induction l generalizing k with
  | nil => simp
  | cons x l ih =>
    cases k with
    | zero => simp
    | succ k => have := ih k; simp; omega
theorem sumTo_le (ss : List SlS) (k : Nat) : sumTo ss k ≤ sumTo ss ss.length := by
  unfold sumTo
  rw [List.take_of_length_le (l := ss.map (·.n)) (i := ss.length) (by simp)]
  exact sum_take_le _ _
set_option maxRecDepth 100000 in
set_option maxHeartbeats 4000000 in
theorem concat_any (ss : List SlS) (m H cc : Nat) (w : World) (hm : ss.length = m) (hHw : H < w.heap.size) (hH : ∀ j (h : j < ss.length), w.cell? ⟨H, j, none⟩ = some ss[j].val) (hr : ∀ s ∈ ss, SlAt w 1 s.A s.n s.c (strs s.l)) (htot : sumTo ss ss.length ≤ 1099511627776) (hm2 : m ≤ 1000000) :
    Calls Tryd.prog 57 #[.slice (some ⟨H, 0, none⟩) m cc] w (RetB (OutT w.heap.size (catTo ss ss.length)) w) := by
  obtain ⟨tot, htt⟩ : ∃ t, sumTo ss ss.length = t := ⟨_, rfl⟩
  have HS := Lib.hid (And.intro hm (And.intro hH (And.intro hr htt)))
  rw [htt] at htot
  clear hm hH hr htt
  have HI := Lib.hid info_str
  go_enter Tryd.func57, Tryd.ntmps57
  go_wp2_with fail
  go_loop [3, 11] (fun t i => ∃ (k q : Nat), k ≤ m ∧ i = .int .i64 (k : Nat) ∧ t = .int .i64 (q : Nat) ∧ q ≤ tot ∧ Hid (sumTo ss k = q)) (fun _ i => m - (intOf i).toNat)
  case atStart => exact ⟨0, 0, by omega, rfl, rfl, by omega, rfl⟩
  case round =>
    obtain ⟨k, q, hk, rfl, rfl, hq, HX⟩ := hrel
    by_cases hkm : k < m
    · have hkl : k < ss.length := by rw [HS.out.1]; exact hkm
      have hc := HS.out.2.1 k hkl
      have hst := sumTo_succ ss k hkl
      have hle := sumTo_le ss (k + 1)
      rw [HX.out] at hst
      rw [hst, HS.out.2.2.2] at hle
      obtain ⟨⟨A, n, c, l⟩, hs⟩ : ∃ s, ss[k] = s := ⟨_, rfl⟩
      rw [hs] at hc hst hle
      have hn0 : q + n ≤ tot := hle
      have HST := Lib.hid (show sumTo ss (k + 1) = q + n from hst); clear hst hs hle
      unfold SlS.val at hc
      simp only at hc
      have hnn : decide ((q : Int) + (n : Int) < 0) = false := decide_eq_false (by omega)
      go_wp2_with fail
      go_round
      case rel => exact ⟨k + 1, q + n, by omega, by go_num, by go_num, hn0, HST.out⟩
      case measure => simp [intOf]; omega
    · have hkm' : k = m := by omega
      subst k
      have hqt : q = tot := by have h := HX.out; rw [← HS.out.1, HS.out.2.2.2] at h; exact h.symm
      subst hqt
      clear HX
      have HG := Lib.hid (grow_any q w htot)
      go_wp2_with fail
      (with_reducible refine HG.out.mono ?_)
      rintro e w1 ⟨v, rfl, ⟨A0, c0, rfl, hown⟩, hb1⟩
      go_wp2_with fail
      go_loopw [6, 27] (fun v i wr => ∃ (k : Nat) (A : Option Addr) (n c : Nat) (o : List (List UInt8)), k ≤ m ∧ i = .int .i64 (k : Nat) ∧ v = .slice A n c ∧ wr.ownsRow w.heap.size 9 1 (.slice A n c) n (strs o) ∧ Below w.heap.size w wr ∧ Hid (catTo ss k = o ∧ sumTo ss k = n)) (fun _ i _ => m - (intOf i).toNat)
      case atStart => exact ⟨0, _, 0, _, [], by omega, rfl, rfl, hown, hb1, ⟨rfl, rfl⟩⟩
      case round =>
        clear hown hb1
        obtain ⟨k, A, n, c, o, hk, rfl, rfl, hown, hbV, HY⟩ := hrel
        by_cases hkm : k < m
        · have hkl : k < ss.length := by rw [HS.out.1]; exact hkm
          have hc := HS.out.2.1 k hkl
          have hc' : wr.cell? ⟨H, k, none⟩ = some ss[k].val := (hbV.cell (p := ⟨H, k, none⟩) hHw).trans hc
          have hsl := (HS.out.2.2.1 _ (List.getElem_mem hkl)).below hbV
          have hst := sumTo_succ ss k hkl
          have hst2 := catTo_succ ss k hkl
          have hle := sumTo_le ss (k + 1)
          rw [HY.out.2] at hst
          rw [HY.out.1] at hst2
          rw [hst, HS.out.2.2.2] at hle
          obtain ⟨⟨A', n', c', l'⟩, hs⟩ : ∃ s, ss[k] = s := ⟨_, rfl⟩
          rw [hs] at hc' hst hst2 hle hsl
          have hn0 : n + n' ≤ q := hle
          have hrd : Rd wr 1 A' n' (strs l') := hsl.1
          have hnil : A' = none → c' = 0 := hsl.2.2.2
          have HST := Lib.hid (And.intro (show sumTo ss (k + 1) = n + n' from hst) (show catTo ss (k + 1) = o ++ l' from hst2)); clear hst hst2 hs hle hsl hc
          unfold SlS.val at hc'
          simp only at hc'
          have hone : ∀ u ∈ strs l', u.oneCell' = true := by intro u hu; unfold strs at hu; obtain ⟨b, -, rfl⟩ := List.mem_map.1 hu; rfl
          go_wp2_with (at_builtin; refine push_many rfl (.tmp 31) (.tmp 32) 23 rfl w.heap.size 9 (.string ⟨#[]⟩) 1 16 Tryd.underlying23 HI.out rfl (by decide) _ _ _ _ A' n' c' (strs l') rfl hown rfl hrd hnil hone (by omega) (by omega) hbV.size ?_; intro v1 w2 hown1 hb2; obtain ⟨A1, c1, rfl⟩ := own_form' hown1)
          go_roundw
          case rel => exact ⟨k + 1, A1, n + n', c1, o ++ l', by omega, by go_num, rfl, (by unfold strs at hown1 ⊢; rw [List.map_append]; exact hown1), hbV.trans hb2, ⟨HST.out.2, HST.out.1⟩⟩
          case measure => simp [intOf]; omega
        · obtain rfl : m = k := by omega
          go_wp2_with fail
          go_ret
          refine ⟨_, rfl, ?_, hbV⟩
          have h1 := HY.out.1
          rw [← HS.out.1] at h1
          rw [h1]
          have hol : o.length = n := by have := (Rd.own hown).len1; rwa [strs_len] at this
          exact ⟨A, c, by rw [hol]; rfl, by rw [hol]; exact hown⟩
set_option maxRecDepth 100000 in
set_option maxHeartbeats 4000000 in
theorem mnames_any (s : Pl.Snap) (X : Cx) (w : World) (hok : SnOk w s X) (hfit : SnFit s) (htot : s.c0.length + s.c1.length + s.c2.length ≤ 1099511627776) : Calls Tryd.prog 28 #[.agg (snL s X).toArray] w (RetB (OutR (Pl.namesP (Pl.all3 s))) w) := by
  obtain ⟨A0, n0, k0, A1, n1, k1, A2, n2, k2⟩ := X
  have hl0 : s.c0.length = n0 := by have := (show Rd w 1 A0 n0 (strs s.c0) from hok.s0.1).len1; rwa [strs_len] at this
  have hl1 : s.c1.length = n1 := by have := (show Rd w 1 A1 n1 (strs s.c1) from hok.s1.1).len1; rwa [strs_len] at this
  have hl2 : s.c2.length = n2 := by have := (show Rd w 1 A2 n2 (strs s.c2) from hok.s2.1).len1; rwa [strs_len] at this
  have HL := Lib.hid (And.intro hl0 (And.intro hl1 hl2)); clear hl0 hl1 hl2
  have HF := Lib.hid (And.intro hfit htot); clear hfit htot
  go_enter Tryd.func28, Tryd.ntmps28
  go_upto_region 1 with (fail)
  generalize hV : w.alloc _ = V
  have hx : SnAt V w.heap.size 0 s ⟨A0, n0, k0, A1, n1, k1, A2, n2, k2⟩ := by rw [← hV]; exact snAt_new w s _
  have hbV : Below w.heap.size w V := by rw [← hV]; exact (Below.refl _ _).alloc (Nat.le_refl _) _
  replace hok := hok.below hbV
  clear hV
  obtain ⟨-, c0, c1, c2, c3, c4, c5, c6, c7, c8⟩ := hx
  simp only [Nat.zero_add] at c0 c1 c2 c3 c4 c5 c6 c7 c8
  go_wp2_with fail
  clear c0 c1 c2 c3 c4 c5 c6 c7 c8
  obtain ⟨L, hL⟩ : ∃ L, Pl.all3 s = L := ⟨_, rfl⟩
  have hcat : catTo [⟨A0, n0, k0, s.c0⟩, ⟨A1, n1, k1, s.c1⟩, ⟨A2, n2, k2, s.c2⟩] 3 = L := by rw [← hL]; simp [catTo, Pl.all3]
  have hcc := concat_any [⟨A0, n0, k0, s.c0⟩, ⟨A1, n1, k1, s.c1⟩, ⟨A2, n2, k2, s.c2⟩] 3 V.heap.size 3 (V.alloc (.cells #[.slice A0 n0 k0, .slice A1 n1 k1, .slice A2 n2 k2] 23)) rfl (by simp) (by
    intro j hj
    match j, hj with
    | 0, _ => simp [go_sem, SlS.val]
    | 1, _ => simp [go_sem, SlS.val]
    | 2, _ => simp [go_sem, SlS.val]) (by
    intro t ht
    simp only [List.mem_cons, List.not_mem_nil, or_false] at ht
    rcases ht with rfl | rfl | rfl
    · exact hok.s0.alloc _
    · exact hok.s1.alloc _
    · exact hok.s2.alloc _) (by
    have h1 := HF.out.2
    obtain ⟨e0, e1, e2⟩ := HL.out
    rw [e0, e1, e2] at h1
    simp [sumTo]; omega) (by omega)
  simp only [List.length_cons, List.length_nil, Nat.zero_add] at hcc
  rw [hcat] at hcc
  have hLl : L.length ≤ 1099511627776 := by rw [← hL]; unfold Pl.all3; rw [List.length_append, List.length_append]; exact HF.out.2
  have HC := Lib.hid (And.intro hcc hL); clear hcc hL hcat
  rw [HC.out.2]
  (with_reducible refine HC.out.1.mono ?_)
  rintro e w1 ⟨v, rfl, ⟨A, c, rfl, hown⟩, hb1⟩
  have hb1' : Below w.heap.size w w1 := (hbV.alloc hbV.size _).trans (hb1.mono (Nat.le_trans hbV.size (by simp)))
  go_wp2_with fail
  have hBle : w.heap.size ≤ (V.alloc (.cells #[.slice A0 n0 k0, .slice A1 n1 k1, .slice A2 n2 k2] 23)).heap.size := Nat.le_trans hbV.size (by simp)
  obtain ⟨BB, hBB⟩ : ∃ B, (V.alloc (.cells #[.slice A0 n0 k0, .slice A1 n1 k1, .slice A2 n2 k2] 23)).heap.size = B := ⟨_, rfl⟩
  rw [hBB] at hown hBle
  clear hBB hb1
  by_cases hL0 : L = []
  · subst hL0
    simp only [List.length_nil]
    (with_reducible refine (Tryd.slices_Sort_string_none A c w1).mono ?_)
    rintro e w2 ⟨rfl, rfl⟩
    go_wp2_with fail
    (with_reducible refine (Tryd.slices_Compact_string_empty A c w2).mono ?_)
    rintro e w3 ⟨rfl, rfl⟩
    go_wp2_with fail
    go_ret
    refine ⟨_, rfl, ?_, hb1'⟩
    rw [HC.out.2]
    have hn : Pl.namesP [] = [] := List.eq_nil_iff_forall_not_mem.2 fun x hx => by rw [Pl.namesP_mem] at hx; cases hx
    rw [hn]
    exact ⟨A, c, rfl, ⟨by simp [strs], fun h => absurd h (by simp)⟩⟩
  · have hlp : 0 < L.length := List.length_pos_iff.2 hL0
    obtain ⟨g, cap, hv, hbg, hgl, hnc, hcm, -, hH⟩ := Lib.holds_of_ownsRow (enc := encStr) (zs := L) hown (by
      intro h; injection h with _ h2 _; omega)
    injection hv with hA _ hcc
    subst hA hcc
    (with_reducible refine (Tryd.slices_Sort_string g 0 c L w1 hH hgl (by omega)).mono ?_)
    rintro e w2 ⟨rfl, nn, os, hw2⟩
    have hso : (L.mergeSort fun x y => decide (x ≤ y)).length = L.length := List.length_mergeSort L
    have hown2 : w2.ownsRow BB 9 1 (.slice (some ⟨g, 0, none⟩) L.length c) L.length ((L.mergeSort fun x y => decide (x ≤ y)).map encStr) := by
      rcases hown.2 with ⟨e0, _⟩ | ⟨g', cap', cur, e0, hb, hg, h1, h2, h3, h4⟩
      · cases e0
      · injection e0 with e1 _ e3
        injection e1 with e1
        injection e1 with e1
        subst e1; subst e3
        rw [hw2]
        exact ownsRow_sorted hso hb hg h1 h2 h3
    have hb2 : Below w.heap.size w w2 := by
      rw [hw2]
      exact hb1'.grown (grownBy_sorted _) hb1'.size (fun j hj => by cases hj; omega)
    clear hw2 hown hH
    obtain ⟨S, hS⟩ : ∃ S, (L.mergeSort fun x y => decide (x ≤ y)) = S := ⟨_, rfl⟩
    rw [hS] at hso hown2
    have HSS := Lib.hid (And.intro hS hso)
    obtain ⟨g2, cap2, hv2, -, hgl2, hnc2, hcm2, -, hH2⟩ := Lib.holds_of_ownsRow (enc := encStr) (zs := S) hown2 (by
      intro h; injection h with _ h2 _; omega)
    injection hv2 with hA2 _ hcc2
    injection hA2 with hA2
    injection hA2 with hA2
    subst hA2 hcc2
    have HCM := Lib.hid (Tryd.slices_Compact_string g 0 c S w2 hH2 (by omega) (by omega))
    go_wp2_with fail
    rw [← HSS.out.2]
    (with_reducible refine HCM.out.mono ?_)
    rintro e w3 ⟨rfl, q, hw3⟩
    have hcl := Lib.compact_length_le S
    have hown3 : w3.ownsRow BB 9 1 (.slice (some ⟨g, 0, none⟩) (Lib.compact S).length c) (Lib.compact S).length (((Lib.compact S ++ List.replicate (S.length - (Lib.compact S).length) []).take (Lib.compact S).length).map encStr) := by
      rw [hw3]
      exact Lib.ownsRow_putRow hown2 (by simp; omega) (by omega)
    have hb3 : Below w.heap.size w w3 := by rw [hw3]; exact Lib.below_putRow hb2 (by omega)
    rw [List.take_left' rfl] at hown3
    clear hw3 hown2 hH2
    go_wp2_with fail
    go_ret
    refine ⟨_, rfl, ?_, hb3⟩
    rw [HC.out.2]
    have hn : Pl.namesP L = Lib.compact S := by unfold Pl.namesP Pl.sortT; rw [HSS.out.1]
    rw [hn]
    exact ⟨_, c, rfl, Rd.own hown3⟩
end Go.Proofs.YtommlolhpaeioaaDoor
