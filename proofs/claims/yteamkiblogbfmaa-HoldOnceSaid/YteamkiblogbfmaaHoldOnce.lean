/- HoldOnce holds: trimmed once more, nothing goes; what the policy keeps of the rest is all of it. No condition. -/
import Derived.Test.YteamkiblogbfmaaOpenRt
import Derived.Test.YteamkiblogbfmaaHoldPl3
import Derived.Lib.SmallJoins
namespace Go.Proofs.Yteamkiblogbfmaa
open Go.ChangeShapes Go.WideShapes Go.ChangeAt Go.RowKit
set_option linter.unusedVariables false
set_option linter.unusedSimpArgs false
theorem RBox.pol {W : World} {B : Nat} {R : Pl.Rt} {s p c : Value} {L : List Value} (h : RBox W B R s p c L) : W.cell? ⟨B, 4, none⟩ = some (.int .i64 R.p.d) ∧ W.cell? ⟨B, 5, none⟩ = some (.int .i64 R.p.w) ∧ W.cell? ⟨B, 6, none⟩ = some (.int .i64 R.p.mo) ∧ W.cell? ⟨B, 7, none⟩ = some (.int .i64 R.p.y) := by
  have h1 := h.at_
  rw [h.l] at h1
  exact ⟨cell_row W _ 4 _ _ h1, cell_row W _ 5 _ _ h1, cell_row W _ 6 _ _ h1, cell_row W _ 7 _ _ h1⟩
set_option maxRecDepth 100000 in
set_option maxHeartbeats 8000000 in
theorem holdOnce_walk (R : Pl.Rt) (s p c : Value) (w : World) (hrt : RtAt w R s p c) (hok : RtOk R) (hfit : ∀ x ∈ R.l, x.m.length ≤ 140737488355328 ∧ x.nm.length ≤ 140737488355328) :
    Calls Try.prog 9 #[rtV R s p c] w (RetB (fun v _ => v = .bool true) w) := by
  have hgreat := fun W (h : RtAt W R s p c) => great50_any s R.l W (by have := hok.l; omega) h.s hfit
  obtain ⟨G, hG⟩ : ∃ G, Pl.great50 R.l = G := ⟨_, rfl⟩
  rw [hG] at hgreat
  obtain ⟨L, hL⟩ : ∃ L, L = rtL R s p c := ⟨_, rfl⟩
  rw [rtV_L, ← hL]
  have H0 := Lib.hid (And.intro hgreat (And.intro hG (And.intro hL (And.intro hrt hok)))); clear hgreat hG hL hrt hok hfit
  go_enter Try.func9, Try.ntmps9
  go_upto_region 1 with (fail)
  generalize hV : World.alloc w _ = V
  obtain ⟨bx, hbV⟩ := rbox_arg H0.out.2.2.1 H0.out.2.2.2.1 hV
  clear hV
  go_wp2_with fail
  refine (alive_any V).mono ?_
  rintro e w1 ⟨v, rfl, rfl, hb1⟩
  have bx1 := bx.below hb1
  have hbw := hbV.trans (hb1.mono hbV.size)
  clear bx hb1 hbV
  have x2 := bx1.refs
  have HB := Lib.hid (And.intro bx1 hbw); clear bx1 hbw
  go_wp2_with fail
  refine (H0.out.1 w1 HB.out.1.rt).mono ?_
  rintro e w2 ⟨rfl, rfl⟩
  cases G
  rotate_left
  · go_wp2_with fail
    go_ret
    exact ⟨_, rfl, rfl, HB.out.2⟩
  have hl60 := Pl.great50_few H0.out.2.1
  obtain ⟨R1, hR1⟩ : ∃ R1 : Pl.Rt, R1 = { R with l := sel false (prs R) } := ⟨_, rfl⟩
  have hl1 : R1.l.length ≤ 60 := by rw [hR1]; have h1 := sel_len false (prs R); rw [prs_len] at h1; simp only; omega
  have hok1 : RtOk R1 := by rw [hR1]; exact H0.out.2.2.2.2.sel false
  have hall := once_all R R1 hR1
  have htrim := trim_any R s p c w1 hl60 H0.out.2.2.2.2 HB.out.1.rt
  rw [← hR1, rtV_L, ← H0.out.2.2.1] at htrim
  have HH := Lib.hid (And.intro htrim (And.intro hl1 (And.intro hok1 (And.intro hall hR1)))); clear htrim hl1 hok1 hall hR1 hl60 x2
  go_wp2_with (with_reducible refine wpList_load_mid rfl 28 _ rfl w.heap.size 0 rfl L _ HB.out.1.range Try.underlying28 rfl HB.out.1.info ?_)
  refine HH.out.1.mono ?_
  rintro e w3 ⟨v, rfl, ⟨s3, p3, c3, rfl, hrt3⟩, hb3⟩
  have hbw3 := HB.out.2.trans (hb3.mono HB.out.2.size)
  obtain ⟨L3, hL3⟩ : ∃ L3, L3 = rtL R1 s3 p3 c3 := ⟨_, rfl⟩
  rw [rtV_L, ← hL3]
  have hT3 := rt_there w3 hL3
  have hi3 := rtL_info hL3
  have ho3 := rtL_one hL3 hrt3
  have H3 := Lib.hid (And.intro hbw3 (And.intro hL3 hrt3)); clear hbw3 hL3 hrt3 hb3 HB
  go_upto_region 6 with (with_reducible refine wpList_store_mid rfl 28 _ _ rfl w3.heap.size 0 L3.toArray rfl rfl hT3 hi3 ho3 ?_)
  generalize hW4 : World.setCells _ _ _ _ = W4
  obtain ⟨by4, hb4⟩ := rbox_new H3.out.2.1 H3.out.2.2 hW4
  have hbw4 := H3.out.1.trans (hb4.mono H3.out.1.size)
  clear hW4 hb4 hT3 hi3 ho3 H3
  generalize w3.heap.size = B3 at by4 ⊢
  have htrim := trim_any R1 s3 p3 c3 W4 HH.out.2.1 HH.out.2.2.1 by4.rt
  have hself : ({ R1 with l := sel false (prs R1) } : Pl.Rt) = R1 := by rw [once_stay HH.out.2.2.2.1]
  rw [hself, rtV_L, ← by4.l] at htrim
  have HB := Lib.hid (And.intro by4 (And.intro hbw4 htrim)); clear by4 hbw4 htrim hself
  go_wp2_with (with_reducible refine wpList_load_mid rfl 28 _ rfl B3 0 rfl L3 _ HB.out.1.range Try.underlying28 rfl HB.out.1.info ?_)
  refine HB.out.2.2.mono ?_
  rintro e w5 ⟨v, rfl, ⟨s5, p5, c5, rfl, hrt5⟩, hb5⟩
  have by5 := HB.out.1.below hb5
  have hbw5 := HB.out.2.1.trans (hb5.mono HB.out.2.1.size)
  obtain ⟨L5, hL5⟩ : ∃ L5, L5 = rtL R1 s5 p5 c5 := ⟨_, rfl⟩
  rw [rtV_L, ← hL5]
  have hT5 := rt_there w5 hL5
  have hi5 := rtL_info hL5
  have ho5 := rtL_one hL5 hrt5
  have H5 := Lib.hid (And.intro by5 (And.intro hbw5 (And.intro hL5 hrt5))); clear by5 hbw5 hL5 hrt5 hb5 HB
  go_upto_region 7 with (with_reducible refine wpList_store_mid rfl 28 _ _ rfl w5.heap.size 0 L5.toArray rfl rfl hT5 hi5 ho5 ?_)
  generalize hW6 : World.setCells _ _ _ _ = W6
  obtain ⟨bz6, hb6⟩ := rbox_new H5.out.2.2.1 H5.out.2.2.2 hW6
  have by6 := H5.out.1.below hb6
  have hbw6 := H5.out.2.1.trans (hb6.mono H5.out.2.1.size)
  clear hW6 hb6 hT5 hi5 ho5 H5
  generalize w5.heap.size = B5 at bz6 ⊢
  obtain ⟨A3, k3, hs3, hrd3, -⟩ := by6.rt.s
  have hkp := keep_any R1.p A3 R1.l.length k3 R1.l R1.now W6 rfl (by have := HH.out.2.1; omega) hrd3 (fun x hx => (HH.out.2.2.1.fit x hx).1)
  have hpc : polV R1.p = .agg #[.int .i64 R1.p.d, .int .i64 R1.p.w, .int .i64 R1.p.mo, .int .i64 R1.p.y] := rfl
  rw [hpc, once_keep HH.out.2.2.2.1] at hkp
  obtain ⟨y4, y5, y6, y7⟩ := by6.pol
  have y1 := by6.now
  have y2 := by6.refs
  rw [hs3] at y2
  obtain ⟨N, hN⟩ : ∃ N, N = R1.l.length := ⟨_, rfl⟩
  rw [← hN] at hkp y2 hs3
  have HB := Lib.hid (And.intro by6 (And.intro hbw6 (And.intro bz6 (And.intro hkp (And.intro hs3 hN))))); clear by6 hbw6 bz6 hkp hs3 hN hrd3 hpc
  go_wp2_with fail
  refine HB.out.2.2.2.1.mono ?_
  rintro e w7 ⟨v, rfl, ⟨bk, rfl, hbk, hk⟩, hb7⟩
  have by7 := HB.out.1.below hb7
  have bz7 := HB.out.2.2.1.below hb7
  have hbw7 := HB.out.2.1.trans (hb7.mono HB.out.2.1.size)
  clear y1 y2 y4 y5 y6 y7 hb7
  have hgone := gone_any R1 s3 p3 c3 w7 HH.out.2.1 HH.out.2.2.1 by7.rt
  rw [once_gone HH.out.2.2.2.1, rtV_L, ← by7.l] at hgone
  have H7 := Lib.hid (And.intro by7 (And.intro bz7 (And.intro hbw7 (And.intro hk (And.intro hgone (And.intro HB.out.2.2.2.2.1 HB.out.2.2.2.2.2)))))); clear by7 bz7 hbw7 hk hgone HB hbk
  go_wp2_with (with_reducible refine wpList_load_mid rfl 28 _ rfl B3 0 rfl L3 _ H7.out.1.range Try.underlying28 rfl H7.out.1.info ?_)
  refine H7.out.2.2.2.2.1.mono ?_
  rintro e w8 ⟨v8, rfl, ho8, hb8⟩
  obtain ⟨A8, k8, rfl⟩ := own_form' ho8
  have by8 := H7.out.1.below hb8
  have bz8 := H7.out.2.1.below hb8
  have hbw8 := H7.out.2.2.1.trans (hb8.mono H7.out.2.2.1.size)
  have hk8 := (hb8.block _ (blk_lt H7.out.2.2.2.1)).trans H7.out.2.2.2.1
  have y2 := by8.refs
  have z2 := bz8.refs
  have hrs := rrefs_same s3 s5 R1.l w8 (by have := HH.out.2.1; omega) by8.rt.s bz8.rt.s
  have H8 := Lib.hid (And.intro by8 (And.intro hbw8 (And.intro hk8 (And.intro hrs H7.out.2.2.2.2.2)))); clear by8 bz8 hbw8 hk8 hrs ho8 hb8 H7
  go_wp2_with fail
  refine H8.out.2.2.2.1.mono ?_
  rintro e w9 ⟨v, rfl, rfl, hb9⟩
  have by9 := H8.out.1.below hb9
  have hbw9 := H8.out.2.1.trans (hb9.mono H8.out.2.1.size)
  have hk9 := (hb9.block _ (blk_lt H8.out.2.2.1)).trans H8.out.2.2.1
  clear y2 z2 hb9
  have y2 := by9.refs
  rw [H8.out.2.2.2.2.1] at y2
  have H9 := Lib.hid (And.intro hbw9 (And.intro hk9 H8.out.2.2.2.2.2)); clear by9 hbw9 hk9 H8
  go_wp2_with fail
  clear y2
  have hN60 : N ≤ 60 := by rw [H9.out.2.2]; exact HH.out.2.1
  go_loopw [6] (fun i wr => ∃ j : Nat, j ≤ N ∧ i = .int .i64 j ∧ wr = w9) (fun i _ => N - (intOf i).toNat)
  case atStart => exact ⟨0, by omega, rfl, rfl⟩
  case round =>
    obtain ⟨j, hj, rfl, rfl⟩ := hrel
    by_cases hjn : j < N
    · have xk : wr.cell? ⟨bk, j, none⟩ = some (.bool true) := by
        have h := H9.out.2.1
        rw [cell_row wr bk j _ _ h, bools_get _ _ (by simpa using hjn)]
        simp [hjn]
      have j0 : (0 : Int) ≤ (j : Int) := by omega
      have j1 : (j : Int) < (N : Int) := by omega
      go_wp2_with fail
      exact ⟨⟨j + 1, by omega, rfl, trivial⟩, by simp [intOf]; omega⟩
    · obtain rfl : j = N := by omega
      go_wp2_with fail
      go_ret
      exact ⟨_, rfl, rfl, H9.out.1⟩
-- FRAME
set_option maxRecDepth 100000 in
theorem holdOnce_lifted (os : Os) (started : os.Started) (H : Type) (enc : TypeId × Value → H) :
    ReturnsInHanded {} Try.checked os 9 .any (Rows.holdOnceSpec.pre6 enc Try.prog Try.f9 Rows.holdOnceRow.domain false) (Rows.holdOnceSpec.post enc Try.prog Try.f9 false true false false) := by
  refine returnsInHanded_of_change_sized (C := Try.checked) own started (by kernel_rfl) Try.func9
    (ChangeSpec.witness6 (enc := enc) (C := Try.checked) false ⟨#[], #[.agg #[.int .i64 0, .int .i64 0, .slice none 0 0, .slice none 0 0, .int .i64 0, .int .i64 0, .int .i64 0, .int .i64 0, .slice none 0 0]], []⟩ 8 (by kernel_rfl) (by kernel_rfl) (by kernel_rfl) (by kernel_rfl)) ?_
  intro W base args ds gs before hval0 hW hcnd hsz0 _
  have hval : ∀ (j : Nat) t v, Try.f9.params[j]? = some t → args[j]? = some v → Value.okWide Try.prog W .any base t v := hval0
  have hW' := hW
  obtain ⟨p, q, hA0, hV, rfl, hfz, hnd⟩ := hW
  have hA : DataW.TrodAll enc Try.prog W 0 (fun _ => true) true Try.f9.params.toList args.toList ds p := hA0
  have hsz : (DataW.weightsEach Try.prog (Try.f9.params.toList ++ Rows.holdOnceSpec.plain.varTypes Try.prog) (ds ++ gs)).all (· ≤ reachBytes) = true := hsz0
  rw [Try.params9] at hA hval hsz
  obtain ⟨v0, vs0, d0, ds0, p0, q0, hargs, rfl, rfl, h0, r0⟩ := trodAll_cons hA
  obtain ⟨rfl, rfl, rfl⟩ := trodAll_nil r0
  obtain rfl : args = #[v0] := by cases args; simp_all
  obtain ⟨rfl, rfl⟩ := trodVars_none hV
  have k0 := h0
  have lt0 : ∀ x ∈ p0, x.block < W.heap.size := by obtain ⟨m, hm⟩ := k0; exact DataW.trod_lt m _ _ _ hm
  have hz0 : ∀ m ∈ d0.weights Try.prog 28, m ≤ reachBytes := fun m hm => by
    have h1 := List.all_eq_true.1 hsz m (DataW.weights_mem_each (j := 0) rfl rfl m hm)
    simpa using h1
  obtain ⟨R0, s0, p0, c0, rfl, eA0, eB0, eC0⟩ := open_root (hval 0 28 v0 rfl rfl) h0 hz0
  clear hA0 hval0 hsz0
  refine (holdOnce_walk R0 s0 p0 c0 W eA0 eB0 eC0).mono fun e W' ⟨v, he, hv, bel⟩ => ?_
  subst he hv
  exact ⟨_, rfl, _, _, _, [], _, [], hW', trodAll_mk1 (shut_bool Try.underlying4 _), (trodAll_cons_mk (Below.trod laidOut (by kernel_rfl) (of_decide_eq_true (by kernel_rfl)) k0 bel lt0) trodAll_mk0), rfl, bel.frame _, fun h => by cases h⟩

theorem holdOnce_holds : Rows.HoldOnceSaid :=
  OpenClaim.holds_of_wide 9 Try.f9 rfl rfl rfl rfl rfl rfl rfl ⟨rfl, rfl, rfl, rfl, rfl⟩ rfl rfl rfl rfl rfl (by kernel_rfl) Try.func9 (by kernel_rfl)
    (of_decide_eq_true (by kernel_rfl)) (by unfold Func.isWrapper; first | (rw [if_pos (by decide +kernel)]; kernel_rfl) | (rw [if_neg (by decide +kernel)]; exact ⟨rfl, rfl⟩))
    (fun os started H enc _ => holdOnce_lifted os started H enc)
#print axioms holdOnce_holds
end Go.Proofs.Yteamkiblogbfmaa
