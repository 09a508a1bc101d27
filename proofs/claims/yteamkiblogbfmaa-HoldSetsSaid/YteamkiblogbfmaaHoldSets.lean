/- HoldSets holds: any hold set in any root, or the error, is the document's; all else stays. No condition. -/
import Derived.Test.YteamkiblogbfmaaOpenRt
import Derived.Test.YteamkiblogbfmaaHoldBx
import Derived.Lib.SmallJoins
namespace Go.Proofs.Yteamkiblogbfmaa
open Go.ChangeShapes Go.WideShapes Go.ChangeAt Go.RowKit
set_option linter.unusedVariables false
set_option linter.unusedSimpArgs false
set_option maxRecDepth 100000 in
set_option maxHeartbeats 4000000 in
theorem holdSets_walk (R : Pl.Rt) (s p c : Value) (m : List UInt8) (n til : Int) (w : World) (hrt : RtAt w R s p c) (hok : RtOk R) (hfit : ∀ x ∈ R.l, x.m.length ≤ 140737488355328 ∧ x.nm.length ≤ 140737488355328) (hm : m.length ≤ 140737488355328) (hn1 : -9223372036854775808 ≤ n) (hn2 : n ≤ 9223372036854775807) (ht1 : -9223372036854775808 ≤ til) (ht2 : til ≤ 9223372036854775807) :
    Calls Try.prog 3 #[rtV R s p c, .string ⟨m.toArray⟩, .int .i64 n, .int .i64 til] w (RetB (fun v _ => v = .bool true) w) := by
  have hgreat := fun W (h : RtAt W R s p c) => great50_any s R.l W (by have := hok.l; omega) h.s hfit
  have hset := fun W (h : RtAt W R s p c) => set_any R s p c m n til W hok h
  have hrset := fun W (h : RtAt W R s p c) => rset_any R s p c m n til W hok h
  obtain ⟨G, hG⟩ : ∃ G, Pl.great50 R.l = G := ⟨_, rfl⟩
  rw [hG] at hgreat
  obtain ⟨E, hE⟩ : ∃ E, Pl.setE R m n til = E := ⟨_, rfl⟩
  obtain ⟨R', hR'⟩ : ∃ R', Pl.setR R m n til = R' := ⟨_, rfl⟩
  have hok' : RtOk R' := by rw [← hR']; exact hok.setR m n til ⟨ht1, ht2⟩
  have hl' : R'.l.length ≤ R.l.length := by rw [← hR']; exact setR_len R m n til
  unfold SetOut at hset hrset
  rw [hE, hR'] at hset hrset
  obtain ⟨L, hL⟩ : ∃ L, L = rtL R s p c := ⟨_, rfl⟩
  rw [rtV_L, ← hL] at hset hrset ⊢
  have HH := Lib.hid (And.intro hgreat (And.intro hset (And.intro hrset (And.intro hG (And.intro hok' (And.intro hl' (And.intro hL hrt))))))); clear hgreat hset hrset hG hok' hl' hE hR' hok hfit hL hrt
  go_enter Try.func3, Try.ntmps3
  go_upto_region 1 with (fail)
  generalize hV : World.alloc w _ = V
  obtain ⟨bx, hbV⟩ := rbox_arg HH.out.2.2.2.2.2.2.1 HH.out.2.2.2.2.2.2.2 hV
  clear hV
  go_wp2_with fail
  refine (alive_any V).mono ?_
  rintro e w1 ⟨v, rfl, rfl, hb1⟩
  have bx1 := bx.below hb1
  have hbw := hbV.trans (hb1.mono hbV.size)
  clear bx hb1 hbV
  have x2 := bx1.refs
  have HB := Lib.hid (And.intro bx1 hbw); clear bx1 hbw
  go_wp2_with fail
  refine (HH.out.1 w1 HB.out.1.rt).mono ?_
  rintro e w2 ⟨rfl, rfl⟩
  cases G
  rotate_left
  · go_wp2_with fail
    go_ret
    exact ⟨_, rfl, rfl, HB.out.2⟩
  by_cases hm1 : 100 < m.length
  · have hm2 : (100 : Int) < (m.length : Int) := by omega
    go_wp2_with fail
    go_ret
    exact ⟨_, rfl, rfl, HB.out.2⟩
  have hm2 : ¬ (100 : Int) < (m.length : Int) := by omega
  have hl60 := Pl.great50_few HH.out.2.2.2.1
  go_wp2_with (with_reducible refine wpList_load_mid rfl 28 _ rfl w.heap.size 0 rfl L _ HB.out.1.range Try.underlying28 rfl HB.out.1.info ?_)
  refine (HH.out.2.1 w1 HB.out.1.rt).mono ?_
  rintro e w3 ⟨v, rfl, ⟨rv, rfl, ⟨s3, p3, c3, rfl, hrt3⟩⟩, hb3⟩
  have bx3 := HB.out.1.below hb3
  have hbw3 := HB.out.2.trans (hb3.mono HB.out.2.size)
  obtain ⟨L3, hL3⟩ : ∃ L3, L3 = rtL R' s3 p3 c3 := ⟨_, rfl⟩
  rw [rtV_L, ← hL3]
  have hT3 := rt_there w3 hL3
  have hi3 := rtL_info hL3
  have ho3 := rtL_one hL3 hrt3
  have H3 := Lib.hid (And.intro bx3 (And.intro hbw3 (And.intro hL3 hrt3))); clear bx3 hbw3 hL3 hrt3 hb3 x2 HB
  go_upto_region 6 with (with_reducible refine wpList_store_mid rfl 28 _ _ rfl w3.heap.size 0 L3.toArray rfl rfl hT3 hi3 ho3 ?_)
  generalize hW4 : World.setCells _ _ _ _ = W4
  obtain ⟨by4, hb4⟩ := rbox_new H3.out.2.2.1 H3.out.2.2.2 hW4
  have bx4 := H3.out.1.below hb4
  have hbw4 := H3.out.2.1.trans (hb4.mono H3.out.2.1.size)
  clear hW4 hb4 hT3 hi3 ho3 H3
  have HB := Lib.hid (And.intro bx4 (And.intro hbw4 by4)); clear bx4 hbw4 by4
  go_wp2_with (with_reducible refine wpList_load_mid rfl 28 _ rfl w.heap.size 0 rfl L _ HB.out.1.range Try.underlying28 rfl HB.out.1.info ?_)
  refine (HH.out.2.2.1 W4 HB.out.1.rt).mono ?_
  rintro e w5 ⟨v, rfl, ⟨rv, rfl, ⟨s5, p5, c5, rfl, hrt5⟩⟩, hb5⟩
  have hbw5 := HB.out.2.1.trans (hb5.mono HB.out.2.1.size)
  have by5 := HB.out.2.2.below hb5
  obtain ⟨L5, hL5⟩ : ∃ L5, L5 = rtL R' s5 p5 c5 := ⟨_, rfl⟩
  rw [rtV_L, ← hL5]
  have hT5 := rt_there w5 hL5
  have hi5 := rtL_info hL5
  have ho5 := rtL_one hL5 hrt5
  have H5 := Lib.hid (And.intro by5 (And.intro hbw5 (And.intro hL5 hrt5))); clear by5 hbw5 hL5 hrt5 hb5 HB
  go_upto_region 7 with (with_reducible refine wpList_store_mid rfl 28 _ _ rfl w5.heap.size 0 L5.toArray rfl rfl hT5 hi5 ho5 ?_)
  generalize hW6 : World.setCells _ _ _ _ = W6
  obtain ⟨bz6, hb6⟩ := rbox_new H5.out.2.2.1 H5.out.2.2.2 hW6
  have by6 := H5.out.1.below hb6
  have hbw6 := H5.out.2.1.trans (hb6.mono H5.out.2.1.size)
  clear hW6 hb6 hT5 hi5 ho5 H5
  have y2 := by6.refs
  have z2 := bz6.refs
  have hl6 : R'.l.length ≤ 1000000 := by have := HH.out.2.2.2.2.2.1; omega
  have HB := Lib.hid (And.intro by6 (And.intro hbw6 bz6)); clear by6 hbw6 bz6
  go_wp2_with fail
  refine (rrefs_same s3 s5 R'.l W6 hl6 HB.out.1.rt.s HB.out.2.2.rt.s).mono ?_
  rintro e w7 ⟨v, rfl, rfl, hb7⟩
  have by7 := HB.out.1.below hb7
  have bz7 := HB.out.2.2.below hb7
  have hbw7 := HB.out.2.1.trans (hb7.mono HB.out.2.1.size)
  clear hb7 HB y2 z2
  have HB := Lib.hid (And.intro by7 (And.intro hbw7 bz7)); clear by7 hbw7 bz7
  go_wp2_with (first | (with_reducible refine load_mid_g (by with_unfolding_all rfl) 28 _ rfl w3.heap.size 0 rfl L3 _ HB.out.1.range Try.underlying28 rfl HB.out.1.info ?_) | (with_reducible refine load_mid_g (by with_unfolding_all rfl) 28 _ rfl w5.heap.size 0 rfl L5 _ HB.out.2.2.range Try.underlying28 rfl HB.out.2.2.info ?_))
  have hal := alike_any R' R'.l s3 p3 c3 s5 p5 c5 w7 HH.out.2.2.2.2.1 HB.out.1.rt HB.out.2.2.rt
  rw [HB.out.1.val, show ({ R' with l := R'.l } : Pl.Rt) = R' from rfl, HB.out.2.2.val] at hal
  refine hal.mono ?_
  rintro e w8 ⟨v, rfl, rfl, hb8⟩
  have hbw8 := HB.out.2.1.trans (hb8.mono HB.out.2.1.size)
  go_wp2_with fail
  go_ret
  exact ⟨_, rfl, rfl, hbw8⟩
-- FRAME
set_option maxRecDepth 100000 in
theorem holdSets_lifted (os : Os) (started : os.Started) (H : Type) (enc : TypeId × Value → H) :
    ReturnsInHanded {} Try.checked os 3 .any (Rows.holdSetsSpec.pre6 enc Try.prog Try.f3 Rows.holdSetsRow.domain false) (Rows.holdSetsSpec.post enc Try.prog Try.f3 false true false false) := by
  refine returnsInHanded_of_change_sized (C := Try.checked) own started (by kernel_rfl) Try.func3
    (ChangeSpec.witness6 (enc := enc) (C := Try.checked) false ⟨#[], #[.agg #[.int .i64 0, .int .i64 0, .slice none 0 0, .slice none 0 0, .int .i64 0, .int .i64 0, .int .i64 0, .int .i64 0, .slice none 0 0], .string ⟨#[]⟩, .int .i64 0, .int .i64 0], []⟩ 8 (by kernel_rfl) (by kernel_rfl) (by kernel_rfl) (by kernel_rfl)) ?_
  intro W base args ds gs before hval0 hW hcnd hsz0 _
  have hval : ∀ (j : Nat) t v, Try.f3.params[j]? = some t → args[j]? = some v → Value.okWide Try.prog W .any base t v := hval0
  have hW' := hW
  obtain ⟨p, q, hA0, hV, rfl, hfz, hnd⟩ := hW
  have hA : DataW.TrodAll enc Try.prog W 0 (fun _ => true) true Try.f3.params.toList args.toList ds p := hA0
  have hsz : (DataW.weightsEach Try.prog (Try.f3.params.toList ++ Rows.holdSetsSpec.plain.varTypes Try.prog) (ds ++ gs)).all (· ≤ reachBytes) = true := hsz0
  rw [Try.params3] at hA hval hsz
  obtain ⟨v0, vs0, d0, ds0, p0, q0, hargs, rfl, rfl, h0, r0⟩ := trodAll_cons hA
  obtain ⟨v1, vs1, d1, ds1, p1, q1, rfl, rfl, rfl, h1, r1⟩ := trodAll_cons r0
  obtain ⟨v2, vs2, d2, ds2, p2, q2, rfl, rfl, rfl, h2, r2⟩ := trodAll_cons r1
  obtain ⟨v3, vs3, d3, ds3, p3, q3, rfl, rfl, rfl, h3, r3⟩ := trodAll_cons r2
  obtain ⟨rfl, rfl, rfl⟩ := trodAll_nil r3
  obtain rfl : args = #[v0, v1, v2, v3] := by cases args; simp_all
  obtain ⟨rfl, rfl⟩ := trodVars_none hV
  have k0 := h0
  have lt0 : ∀ x ∈ p0, x.block < W.heap.size := by obtain ⟨m, hm⟩ := k0; exact DataW.trod_lt m _ _ _ hm
  have hz0 : ∀ m ∈ d0.weights Try.prog 28, m ≤ reachBytes := fun m hm => by
    have h1 := List.all_eq_true.1 hsz m (DataW.weights_mem_each (j := 0) rfl rfl m hm)
    simpa using h1
  obtain ⟨R0, s0, p0, c0, rfl, eA0, eB0, eC0⟩ := open_root (hval 0 28 v0 rfl rfl) h0 hz0
  have k1 := h1
  have lt1 : ∀ x ∈ p1, x.block < W.heap.size := by obtain ⟨m, hm⟩ := k1; exact DataW.trod_lt m _ _ _ hm
  have hz1 : ∀ m ∈ d1.weights Try.prog 9, m ≤ reachBytes := fun m hm => by
    have h1 := List.all_eq_true.1 hsz m (DataW.weights_mem_each (j := 1) rfl rfl m hm)
    simpa using h1
  obtain ⟨l1, rfl, eA1⟩ := open_str (hval 1 9 v1 rfl rfl) h1 hz1
  have k2 := h2
  have lt2 : ∀ x ∈ p2, x.block < W.heap.size := by obtain ⟨m, hm⟩ := k2; exact DataW.trod_lt m _ _ _ hm
  have hz2 : ∀ m ∈ d2.weights Try.prog 3, m ≤ reachBytes := fun m hm => by
    have h1 := List.all_eq_true.1 hsz m (DataW.weights_mem_each (j := 2) rfl rfl m hm)
    simpa using h1
  obtain ⟨x2, rfl, eA2, eB2⟩ := open_i64 (hval 2 3 v2 rfl rfl) h2 hz2
  have k3 := h3
  have lt3 : ∀ x ∈ p3, x.block < W.heap.size := by obtain ⟨m, hm⟩ := k3; exact DataW.trod_lt m _ _ _ hm
  have hz3 : ∀ m ∈ d3.weights Try.prog 2, m ≤ reachBytes := fun m hm => by
    have h1 := List.all_eq_true.1 hsz m (DataW.weights_mem_each (j := 3) rfl rfl m hm)
    simpa using h1
  obtain ⟨x3, rfl, eA3, eB3⟩ := open_l64 (hval 3 2 v3 rfl rfl) h3 hz3
  clear hA0 hval0 hsz0
  refine (holdSets_walk R0 s0 p0 c0 l1 x2 x3 W eA0 eB0 eC0 (Nat.le_trans eA1 reach_le) eA2 eB2 eA3 eB3).mono fun e W' ⟨v, he, hv, bel⟩ => ?_
  subst he hv
  exact ⟨_, rfl, _, _, _, [], _, [], hW', trodAll_mk1 (shut_bool Try.underlying4 _), (trodAll_cons_mk (Below.trod laidOut (by kernel_rfl) (of_decide_eq_true (by kernel_rfl)) k0 bel lt0) (trodAll_cons_mk (Below.trod laidOut (by kernel_rfl) (of_decide_eq_true (by kernel_rfl)) k1 bel lt1) (trodAll_cons_mk (Below.trod laidOut (by kernel_rfl) (of_decide_eq_true (by kernel_rfl)) k2 bel lt2) (trodAll_cons_mk (Below.trod laidOut (by kernel_rfl) (of_decide_eq_true (by kernel_rfl)) k3 bel lt3) trodAll_mk0)))), rfl, bel.frame _, fun h => by cases h⟩

theorem holdSets_holds : Rows.HoldSetsSaid :=
  OpenClaim.holds_of_wide 3 Try.f3 rfl rfl rfl rfl rfl rfl rfl ⟨rfl, rfl, rfl, rfl, rfl⟩ rfl rfl rfl rfl rfl (by kernel_rfl) Try.func3 (by kernel_rfl)
    (of_decide_eq_true (by kernel_rfl)) (by unfold Func.isWrapper; first | (rw [if_pos (by decide +kernel)]; kernel_rfl) | (rw [if_neg (by decide +kernel)]; exact ⟨rfl, rfl⟩))
    (fun os started H enc _ => holdSets_lifted os started H enc)
#print axioms holdSets_holds
end Go.Proofs.Yteamkiblogbfmaa
