/- AsmGaps: remarks, blanks and empty lines turn nothing but lines' numbers. -/
import Derived.Test.YtmmnkoeajdeldaaDoorShaped
import Derived.Test.YtmmnkoeajdeldaaDoorTie
import Derived.Test.YtmmnkoeajdeldaaDoorCards
import Derived.Test.YtmmnkoeajdeldaaDoorAsS
import Derived.Test.YtmmnkoeajdeldaaDoorAsLaid
namespace Go.Proofs.YtmmnkoeajdeldaaDoor
open Go.ChangeShapes Go.WideShapes Go.ChangeAt Go.RowKit
set_option linter.unusedVariables false
set_option linter.unusedSimpArgs false
attribute [local go_sem] ba_get ba_cut ba_add fld_k fld_s fld_n
set_option maxRecDepth 100000 in
set_option maxHeartbeats 4000000 in
theorem asmGaps_walk (t m : List UInt8) (ah : Bool) (w : World) (ht : t.length ≤ 140737488355328) (hm : m.length ≤ 140737488355328) (hv : VLaw w) :
    Calls Tryd.prog 4 #[.string ⟨t.toArray⟩, .string ⟨m.toArray⟩, .bool ah] w (RetB (fun v _ => v = .bool true) w) := by
  have HV := Lib.hid hv.asm
  clear hv
  go_enter Tryd.func4, Tryd.ntmps4
  by_cases h1 : 1500 < t.length
  · go_wp2_with fail
    (with_reducible refine (fixed_any w HV.out).mono ?_)
    rintro x w2 ⟨v, rfl, rfl, hb⟩
    go_wp2_with fail
    go_ret
    exact ⟨_, rfl, rfl, hb⟩
  by_cases h2 : 100 < m.length
  · go_wp2_with fail
    (with_reducible refine (fixed_any w HV.out).mono ?_)
    rintro x w2 ⟨v, rfl, rfl, hb⟩
    go_wp2_with fail
    go_ret
    exact ⟨_, rfl, rfl, hb⟩
  go_wp2_with fail
  go_loopw [29] (fun i wr => ∃ (k : Nat), k ≤ m.length ∧ i = .int .i64 (k : Int) ∧ wr = w ∧ Hid ((10 : UInt8) ∉ m.take k)) (fun i _ => m.length - (intOf i).toNat)
  case atStart => exact ⟨0, by omega, rfl, rfl, Lib.hid (by simp)⟩
  case round =>
    obtain ⟨k, hk, rfl, rfl, HK⟩ := hrel
    obtain ⟨w, rfl⟩ : ∃ V, V = wr := ⟨_, rfl⟩
    by_cases hkm : k < m.length
    · obtain ⟨c, hc⟩ : ∃ c, m[k] = c := ⟨_, rfl⟩
      have hix : ∀ W', (Instr.index 9 (.string ⟨m.toArray⟩) (.int .i64 (k : Int))).run Tryd.prog W' = .ok (.int .u8 (c.toNat : Int)) W' := by
        intro W'
        rw [← hc]
        simp [go_sem, hkm]
      have htk := List.take_succ_eq_append_getElem hkm
      rw [hc] at htk
      obtain ⟨x, hx⟩ : ∃ x, c.toNat = x := ⟨_, rfl⟩
      rw [hx] at hix
      have HC := Lib.hid (And.intro htk hx)
      clear hc htk hx
      by_cases hx10 : x = 10
      · subst hx10
        go_wp2_with fail
        (with_reducible refine (fixed_any _ HV.out).mono ?_)
        rintro x w2 ⟨v, rfl, rfl, hb⟩
        go_wp2_with fail
        go_ret
        exact ⟨_, rfl, rfl, hb⟩
      · have e1 : ((x : Int) == 10) = false := by simp; omega
        go_wp2_with fail
        refine ⟨⟨k + 1, by omega, ret_i (by omega), trivial, Lib.hid ?_⟩, by simp only [intOf]; omega⟩
        rw [HC.out.1]
        intro e
        rcases List.mem_append.1 e with e | e
        · exact HK.out e
        · rw [List.mem_singleton] at e
          exact hx10 (by rw [← HC.out.2, ← e]; rfl)
    · have HM : Hid ((10 : UInt8) ∉ m) := Lib.hid (by
        have h := HK.out
        rw [List.take_of_length_le (by omega)] at h
        exact h)
      clear HK
      go_wp2_with fail
      (with_reducible refine (lines_any t _ (by omega)).mono ?_)
      rintro x w2 ⟨A, c, rfl, hown, hb2⟩
      have HG := Lib.hid (fun hl : (Pl.linesD t).length ≤ 150 => Pl.gapT_small t m ah (by omega) (by omega) hl)
      have HS := Lib.hid (Pl.line_small t)
      obtain ⟨ls, hls⟩ : ∃ ls, Pl.linesD t = ls := ⟨_, rfl⟩
      rw [hls] at hown HG HS ⊢
      have hv2 := HV.out.below hb2
      have HW := Lib.hid (And.intro hv2 (And.intro hb2 hls))
      clear hv2 hb2 hls
      obtain ⟨n, hn⟩ : ∃ n, ls.length = n := ⟨_, rfl⟩
      rw [hn] at hown ⊢
      have HN := Lib.hid hn
      clear hn
      by_cases h3 : 150 < n
      · clear hown
        go_wp2_with fail
        (with_reducible refine (fixed_any _ HW.out.1).mono ?_)
        rintro x w3 ⟨v, rfl, rfl, hb⟩
        go_wp2_with fail
        go_ret
        exact ⟨_, rfl, rfl, HW.out.2.1.trans (hb.mono HW.out.2.1.size)⟩
      have HO := Lib.hid hown
      clear hown
      go_wp2_with fail
      go_loopw [9, 46] (fun s i wr => ∃ (k : Nat), k ≤ n ∧ i = .int .i64 (k : Int) ∧ s = .string ⟨(Pl.gapT m ah (ls.take k)).toArray⟩ ∧ wr = w2) (fun _ i _ => n - (intOf i).toNat)
      case atStart => exact ⟨0, by omega, rfl, rfl, rfl⟩
      case round =>
        obtain ⟨k, hk, rfl, rfl, rfl⟩ := hrel
        by_cases hkn : k < n
        · have hkl : k < ls.length := by rw [HN.out]; exact hkn
          obtain ⟨b, off, hA, hbl, hcell⟩ := (Rd.own HO.out).at1 hkn
          subst hA
          have hs0 := HS.out ls[k] (List.getElem_mem hkl)
          have hx0 := HG.out (by rw [HN.out]; omega) k
          have hsn := Pl.gapT_snoc m ah ls[k] (ls.take k)
          rw [← List.take_succ_eq_append_getElem hkl] at hsn
          have hc2 : (strs ls)[k]? = some (.string ⟨ls[k].toArray⟩) := by simp [strs, hkl]
          rw [hc2] at hcell
          obtain ⟨y, hy⟩ : ∃ y, ls[k] = y := ⟨_, rfl⟩
          obtain ⟨X, hX⟩ : ∃ X, Pl.gapT m ah (ls.take k) = X := ⟨_, rfl⟩
          rw [hy] at hs0 hcell hsn
          rw [hX] at hx0 hsn ⊢
          have HY := Lib.hid hsn
          clear hc2 hy hX hsn
          cases ah with
          | false =>
            go_wp2_with fail
            exact ⟨⟨k + 1, by omega, ret_i (by omega), by rw [HY.out]; rfl, trivial⟩, by simp only [intOf]; omega⟩
          | true =>
            go_wp2_with fail
            refine ⟨⟨k + 1, by omega, ret_i (by omega), ?_, trivial⟩, by simp only [intOf]; omega⟩
            rw [HY.out]
            simp
        · have hkn2 : k = n := by omega
          have hx0 := HG.out (by rw [HN.out]; omega) k
          have htk : ls.take k = ls := List.take_of_length_le (by rw [HN.out]; omega)
          rw [htk] at hx0 ⊢
          have hline := Pl.res_line t
          have hgap : Pl.mkP (Pl.gapT m ah ls) = Pl.lnE (Pl.gapF ah) (Pl.mkP t) := by
            rw [← HW.out.2.2, ← Pl.linesN_eq t.length t (Nat.le_refl _)]
            refine Pl.mk_gaps t m ah (by omega) (by omega) HM.out ?_
            rw [Pl.linesN_eq t.length t (Nat.le_refl _), HW.out.2.2, HN.out]
            omega
          obtain ⟨G, hG⟩ : ∃ G, Pl.gapT m ah ls = G := ⟨_, rfl⟩
          rw [hG] at hx0 hgap ⊢
          obtain ⟨E, hE⟩ : ∃ E, Pl.mkP t = E := ⟨_, rfl⟩
          rw [hE] at hgap hline
          have HE := Lib.hid (And.intro hE hgap)
          clear hG hE hgap htk
          go_wp2_with fail
          (with_reducible refine (make_any t _ (by omega) HW.out.1).mono ?_)
          rintro x w3 hq
          obtain ⟨tA, c3, rfl, hr3, hl3, hb3⟩ := hq.val
          rw [HE.out.1] at hr3 hl3 ⊢
          obtain ⟨⟨X, e, ln⟩, hRE⟩ : ∃ q, Pl.resE E = q := ⟨_, rfl⟩
          rw [hRE] at hr3 hl3 hline ⊢
          dsimp only at hr3 hl3 hline ⊢
          have e1 : xeV tA c3 X = .agg #[.slice tA X.text.length c3, .string ⟨X.data.toArray⟩, .int .i64 X.room, .int .u32 (X.entry : Int)] := rfl
          rw [e1]
          have HB3 := Lib.hid hb3
          have HQ := Lib.hid (And.intro hr3 (And.intro hl3 hRE))
          clear e1 hq hb3 hr3 hl3 hRE
          go_upto_region 21 with (fail)
          obtain ⟨w4, hw4⟩ : ∃ V, w3.alloc (.cells #[.slice tA X.text.length c3, .string ⟨X.data.toArray⟩, .int .i64 X.room, .int .u32 (X.entry : Int)] 25) = V := ⟨_, rfl⟩
          obtain ⟨B4, hB4⟩ : ∃ B, w3.heap.size = B := ⟨_, rfl⟩
          have hz4 : w4.heap[B4]? = some (.cells #[.slice tA X.text.length c3, .string ⟨X.data.toArray⟩, .int .i64 X.room, .int .u32 (X.entry : Int)] 25 (0, 0)) := by rw [← hw4, ← hB4]; exact heap_alloc_new _ _
          have hb4 : Below w3.heap.size w3 w4 := by rw [← hw4]; exact (Below.refl _ _).alloc (Nat.le_refl _) _
          rw [hw4, hB4]
          clear hw4
          have hr4 := HQ.out.1.below hb4
          have hbb4 := HB3.out.trans (hb4.mono HB3.out.size)
          have hv4 := HW.out.1.below hbb4
          have H4 := Lib.hid (And.intro hz4 (And.intro hr4 (And.intro hbb4 hv4)))
          clear hz4 hr4 hbb4 hv4 hb4
          go_wp2_with fail
          (with_reducible refine (make_any G w4 (by omega) H4.out.2.2.2).mono ?_)
          rintro x w5 hq
          obtain ⟨tB, c5, rfl, hr5, hl5, hb5⟩ := hq.val
          have hres : Pl.resE (Pl.mkP G) = (X, e, Pl.gapF ah ln) := by rw [HE.out.2, Pl.res_gap, HQ.out.2.2]
          rw [hres] at hr5 hl5 ⊢
          dsimp only at hr5 hl5 ⊢
          obtain ⟨l2, hl2⟩ : ∃ l2, Pl.gapF ah ln = l2 := ⟨_, rfl⟩
          rw [hl2]
          have e1 : xeV tB c5 X = .agg #[.slice tB X.text.length c5, .string ⟨X.data.toArray⟩, .int .i64 X.room, .int .u32 (X.entry : Int)] := rfl
          rw [e1]
          have HB5 := Lib.hid hb5
          have HQ5 := Lib.hid (And.intro hr5 (And.intro hl5 hl2))
          clear e1 hq hb5 hr5 hl5 hres hl2
          go_upto_region 22 with (fail)
          obtain ⟨w6, hw6⟩ : ∃ V, w5.alloc (.cells #[.slice tB X.text.length c5, .string ⟨X.data.toArray⟩, .int .i64 X.room, .int .u32 (X.entry : Int)] 25) = V := ⟨_, rfl⟩
          obtain ⟨B6, hB6⟩ : ∃ B, w5.heap.size = B := ⟨_, rfl⟩
          have hz6 : w6.heap[B6]? = some (.cells #[.slice tB X.text.length c5, .string ⟨X.data.toArray⟩, .int .i64 X.room, .int .u32 (X.entry : Int)] 25 (0, 0)) := by rw [← hw6, ← hB6]; exact heap_alloc_new _ _
          have hb6 : Below w5.heap.size w5 w6 := by rw [← hw6]; exact (Below.refl _ _).alloc (Nat.le_refl _) _
          rw [hw6, hB6]
          clear hw6
          have hb46 : Below w4.heap.size w4 w6 := HB5.out.trans (hb6.mono HB5.out.size)
          have hr6 := HQ5.out.1.below hb6
          have hr46 := H4.out.2.1.below hb46
          have hz46 := (hb46.block B4 (blk_lt H4.out.1)).trans H4.out.1
          have hbb6 := H4.out.2.2.1.trans (hb46.mono H4.out.2.2.1.size)
          have hv6 := HW.out.1.below hbb6
          have H6 := Lib.hid (And.intro hz6 (And.intro hz46 (And.intro hr6 (And.intro hr46 (And.intro hbb6 hv6)))))
          clear hz6 hz46 hr6 hr46 hbb6 hv6 hb6 hb46
          have hfin : ∀ (w7 : World), Below w6.heap.size w6 w7 → Calls Tryd.prog 9 #[.agg #[.slice tA X.text.length c3, .string ⟨X.data.toArray⟩, .int .i64 X.room, .int .u32 (X.entry : Int)], .agg #[.slice tB X.text.length c5, .string ⟨X.data.toArray⟩, .int .i64 X.room, .int .u32 (X.entry : Int)]] w7 (RetB (fun v _ => v = .bool true) w7) := fun w7 hb7 => by
            have h := same11_any X X tA tB c3 c5 w7 (H6.out.2.2.2.1.below hb7) (H6.out.2.2.1.below hb7) HQ.out.2.1 HQ5.out.2.1
            rw [show sameE X X = true from decide_eq_true ⟨rfl, rfl, rfl, rfl⟩] at h
            exact h
          have HF := Lib.hid hfin
          clear hfin
          have hall : ∀ w8, Below w6.heap.size w6 w8 → Below w.heap.size w w8 := fun w8 h8 => by
            have h1 := HW.out.2.1.trans (H6.out.2.2.2.2.1.mono HW.out.2.1.size)
            exact h1.trans (h8.mono h1.size)
          cases ah with
          | false =>
            have hl2 : ln = l2 := HQ5.out.2.2
            subst hl2
            go_wp2_with fail
            (with_reducible refine (fixed_any w6 H6.out.2.2.2.2.2).mono ?_)
            rintro x w7 ⟨v, rfl, rfl, hb7⟩
            obtain ⟨x0, x1, x2, x3⟩ := xeA_cells ((hb7.block B4 (blk_lt H6.out.2.1)).trans H6.out.2.1)
            obtain ⟨y0, y1, y2, y3⟩ := xeA_cells ((hb7.block B6 (blk_lt H6.out.1)).trans H6.out.1)
            have HB7 := Lib.hid hb7
            clear hb7
            go_wp2_with fail
            (with_reducible refine (HF.out w7 HB7.out).mono ?_)
            rintro x w8 ⟨v, rfl, rfl, hb8⟩
            clear x0 x1 x2 x3 y0 y1 y2 y3
            go_wp2_with fail
            go_ret
            exact ⟨_, rfl, rfl, hall w8 (HB7.out.trans (hb8.mono HB7.out.size))⟩
          | true =>
            have hl2 : 2 * ln = l2 := HQ5.out.2.2
            subst hl2
            go_wp2_with fail
            (with_reducible refine (fixed_any w6 H6.out.2.2.2.2.2).mono ?_)
            rintro x w7 ⟨v, rfl, rfl, hb7⟩
            obtain ⟨x0, x1, x2, x3⟩ := xeA_cells ((hb7.block B4 (blk_lt H6.out.2.1)).trans H6.out.2.1)
            obtain ⟨y0, y1, y2, y3⟩ := xeA_cells ((hb7.block B6 (blk_lt H6.out.1)).trans H6.out.1)
            have HB7 := Lib.hid hb7
            clear hb7
            go_wp2_with fail
            (with_reducible refine (HF.out w7 HB7.out).mono ?_)
            rintro x w8 ⟨v, rfl, rfl, hb8⟩
            clear x0 x1 x2 x3 y0 y1 y2 y3
            go_wp2_with fail
            go_ret
            exact ⟨_, rfl, rfl, hall w8 (HB7.out.trans (hb8.mono HB7.out.size))⟩
-- FRAME
set_option maxRecDepth 100000 in
theorem asmGaps_lifted (os : Os) (started : os.Started) (H : Type) (enc : TypeId × Value → H) :
    ReturnsInHanded {} Tryd.checked os 4 .any (fun w args => (Rows.asmGapsSpec.pre enc Tryd.prog Tryd.f4 [] false w args ∧ laidMetH Tryd.prog tabs8 w) ∧ sizedMet enc Tryd.prog Tryd.f4 (OpenSpec.ofChange Rows.asmGapsSpec) false w args) (Rows.asmGapsSpec.post enc Tryd.prog Tryd.f4 false true false false) := by
  refine handed_and_shaped (C := Tryd.checked) (X := fun w _ => laidMetH Tryd.prog tabs8 w) (fun _ _ _ hh h => h.of_heap hh) own started (by kernel_rfl) Tryd.func4
    (ChangeSpec.witness_shaped (enc := enc) (C := Tryd.checked) (os := os) (X := fun w _ => laidMetH Tryd.prog tabs8 w) false (World.laidAll Tryd.prog os tabs8) #[.string ⟨#[]⟩, .string ⟨#[]⟩, .bool false] 8 (World.laidAll_os _ _ _) (door_shaped8 os) (by kernel_rfl) (by kernel_rfl) (by kernel_rfl) (door_met8 os _)) ?_
  intro W base args ds gs before hval0 hW hcnd hsz0 hL hsh _
  have hvars := vlaw_of8 hL hsh
  have hval : ∀ (j : Nat) t v, Tryd.f4.params[j]? = some t → args[j]? = some v → Value.okWide Tryd.prog W .any base t v := hval0
  have hW' := hW
  obtain ⟨p, q, hA0, hV, rfl, hfz, hnd⟩ := hW
  have hA : DataW.TrodAll enc Tryd.prog W 0 (fun _ => true) true Tryd.f4.params.toList args.toList ds p := hA0
  have hsz : (DataW.weightsEach Tryd.prog (Tryd.f4.params.toList ++ Rows.asmGapsSpec.plain.varTypes Tryd.prog) (ds ++ gs)).all (· ≤ reachBytes) = true := hsz0
  rw [Tryd.params4] at hA hval hsz
  obtain ⟨v0, vs0, d0, ds0, p0, q0, hargs, rfl, rfl, h0, r0⟩ := trodAll_cons hA
  obtain ⟨v1, vs1, d1, ds1, p1, q1, rfl, rfl, rfl, h1, r1⟩ := trodAll_cons r0
  obtain ⟨v2, vs2, d2, ds2, p2, q2, rfl, rfl, rfl, h2, r2⟩ := trodAll_cons r1
  obtain ⟨rfl, rfl, rfl⟩ := trodAll_nil r2
  obtain rfl : args = #[v0, v1, v2] := by cases args; simp_all
  obtain ⟨rfl, rfl⟩ := trodVars_none hV
  have k0 := h0
  have lt0 : ∀ x ∈ p0, x.block < W.heap.size := by obtain ⟨m, hm⟩ := k0; exact DataW.trod_lt m _ _ _ hm
  have hz0 : ∀ m ∈ d0.weights Tryd.prog 9, m ≤ reachBytes := fun m hm => by
    have h1 := List.all_eq_true.1 hsz m (DataW.weights_mem_each (j := 0) rfl rfl m hm)
    simpa using h1
  obtain ⟨l0, rfl, eA0⟩ := open_str (hval 0 9 v0 rfl rfl) h0 hz0
  have k1 := h1
  have lt1 : ∀ x ∈ p1, x.block < W.heap.size := by obtain ⟨m, hm⟩ := k1; exact DataW.trod_lt m _ _ _ hm
  have hz1 : ∀ m ∈ d1.weights Tryd.prog 9, m ≤ reachBytes := fun m hm => by
    have h1 := List.all_eq_true.1 hsz m (DataW.weights_mem_each (j := 1) rfl rfl m hm)
    simpa using h1
  obtain ⟨l1, rfl, eA1⟩ := open_str (hval 1 9 v1 rfl rfl) h1 hz1
  have k2 := h2
  have lt2 : ∀ x ∈ p2, x.block < W.heap.size := by obtain ⟨m, hm⟩ := k2; exact DataW.trod_lt m _ _ _ hm
  have hz2 : ∀ m ∈ d2.weights Tryd.prog 4, m ≤ reachBytes := fun m hm => by
    have h1 := List.all_eq_true.1 hsz m (DataW.weights_mem_each (j := 2) rfl rfl m hm)
    simpa using h1
  obtain ⟨x2, rfl, eA2⟩ := open_boolean (hval 2 4 v2 rfl rfl) h2 hz2
  clear hA0 hval0 hsz0
  refine (asmGaps_walk l0 l1 x2 W (Nat.le_trans eA0 reach_le) (Nat.le_trans eA1 reach_le)  hvars).mono fun e W' ⟨v, he, hv, bel⟩ => ?_
  subst he hv
  exact ⟨_, rfl, _, _, _, [], _, [], hW', trodAll_mk1 (shut_bool Tryd.underlying4 _), (trodAll_cons_mk (Below.trod laidOut (by kernel_rfl) (of_decide_eq_true (by kernel_rfl)) k0 bel lt0) (trodAll_cons_mk (Below.trod laidOut (by kernel_rfl) (of_decide_eq_true (by kernel_rfl)) k1 bel lt1) (trodAll_cons_mk (Below.trod laidOut (by kernel_rfl) (of_decide_eq_true (by kernel_rfl)) k2 bel lt2) trodAll_mk0))), rfl, bel.frame _, fun h => by cases h⟩

theorem asmGaps_row : Rows.AsmGapsSaid :=
  OpenClaim.holds_of_wide 4 Tryd.f4 rfl rfl rfl rfl rfl rfl rfl ⟨rfl, rfl, rfl, rfl, rfl⟩ rfl rfl rfl rfl rfl (by kernel_rfl) Tryd.func4 (by kernel_rfl)
    (of_decide_eq_true (by kernel_rfl)) (by unfold Func.isWrapper; first | (rw [if_pos (by decide +kernel)]; kernel_rfl) | (rw [if_neg (by decide +kernel)]; exact ⟨rfl, rfl⟩))
    (fun os started H enc _ => asmGaps_lifted os started H enc)

theorem asmGaps_holds : Rows.AsmGapsCardSaid :=
  Claim7.holds_tied_plain_at .later [] [.data, .data, .data, .data, .sentinel, .sentinel, .data, .pinned] true (true, "d55cc85ed8210602958db176d1b5a3273857d69c0b86cb0600cdc990b033b5c6") true
    asmGaps_row (fun _ h => by cases h) (by kernel_rfl) (fun _ h => by cases h) asmGaps_row_tie rfl ⟨rfl, rfl⟩ (by kernel_rfl) rfl
    (fun f fn hf hfn => by
      obtain rfl : f = 4 := Option.some.inj ((show Tryd.prog.funcNamed "hibernacle/hibernaclelaw11.AsmGaps" = some 4 by kernel_rfl).symm.trans hf) |>.symm
      obtain rfl : fn = Tryd.f4 := (Option.some.inj (Tryd.func4.symm.trans hfn)).symm
      exact ⟨by kernel_rfl, fun j t ht => by
        rw [Tryd.params4] at ht
        rcases j with _ | _ | _ | _ | j
        all_goals first
          | (simp at ht; done)
          | (have h3 := Option.some.inj ht; subst h3; exact (show Tryd.prog.wantsStandIn _ = false by kernel_rfl))⟩)
    (by kernel_rfl)
#print axioms asmGaps_holds
end Go.Proofs.YtmmnkoeajdeldaaDoor
