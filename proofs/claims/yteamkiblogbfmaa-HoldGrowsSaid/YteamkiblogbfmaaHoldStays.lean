/- HoldStays holds: no snapshot that is held is among those that may go, whatever else is there; of each machine one stays. No condition. -/
import Derived.Test.YteamkiblogbfmaaOpenRt
import Derived.Test.YteamkiblogbfmaaHoldPl3
import Derived.Test.YteamkiblogbfmaaHoldLater
import Derived.Lib.SmallJoins
namespace Go.Proofs.Yteamkiblogbfmaa
open Go.ChangeShapes Go.WideShapes Go.ChangeAt Go.RowKit
set_option linter.unusedVariables false
set_option linter.unusedSimpArgs false
structure HeldY (B : Nat) (b o : Nat) (now : Int) (X : List Value) (W : World) : Prop where
  x : W.cell? ⟨B, 1, none⟩ = some (.int .i64 now)
  r : W.rangeAt b o X
theorem held_rf (x : Pl.Rf) (now : Int) (w : World) : Calls Try.prog 20 #[.agg (rfC x).toArray, .int .i64 now] w (RetB (fun v _ => v = .bool (decide (now < x.til))) w) := held_any x now w
theorem field_refs (v0 v1 v2 v3 v4 v5 v6 v7 v8 : Value) (W : World) : (Instr.field 28 (.agg #[v0, v1, v2, v3, v4, v5, v6, v7, v8]) 2).run Try.prog W = .ok v2 W := by kernel_rfl
set_option maxRecDepth 100000 in
set_option maxHeartbeats 8000000 in
theorem holdStays_walk (R : Pl.Rt) (s p c : Value) (w : World) (hrt : RtAt w R s p c) (hok : RtOk R) (hfit : ∀ x ∈ R.l, x.m.length ≤ 140737488355328 ∧ x.nm.length ≤ 140737488355328) :
    Calls Try.prog 7 #[rtV R s p c] w (RetB (fun v _ => v = .bool true) w) := by
  have hgreat := fun W (h : RtAt W R s p c) => great50_any s R.l W (by have := hok.l; omega) h.s hfit
  obtain ⟨G, hG⟩ : ∃ G, Pl.great50 R.l = G := ⟨_, rfl⟩
  rw [hG] at hgreat
  obtain ⟨A, k0, hsA, hrd, -⟩ := hrt.s
  obtain ⟨N, hN⟩ : ∃ N, N = R.l.length := ⟨_, rfl⟩
  rw [← hN] at hsA hrd
  obtain ⟨L, hL⟩ : ∃ L, L = rtL R s p c := ⟨_, rfl⟩
  rw [rtV_L, ← hL]
  have H0 := Lib.hid (And.intro hgreat (And.intro hG (And.intro hL (And.intro hrt (And.intro hok (And.intro hN (And.intro hrd hsA))))))); clear hgreat hG hL hrt hok hfit hN hrd hsA
  go_enter Try.func7, Try.ntmps7
  go_upto_region 1 with (fail)
  generalize hV : World.alloc w _ = V
  obtain ⟨bx, hbV⟩ := rbox_arg H0.out.2.2.1 H0.out.2.2.2.1 hV
  clear hV
  go_wp2_with fail
  refine (alive_any V).mono ?_
  rintro e w1 ⟨v, rfl, rfl, hb1⟩
  have bx1 := bx.below hb1
  have hbw := hbV.trans (hb1.mono hbV.size)
  clear bx hb1 hbV
  have x2 := bx1.refs
  have HB := Lib.hid (And.intro bx1 hbw); clear bx1 hbw
  go_wp2_with fail
  refine (H0.out.1 w1 HB.out.1.rt).mono ?_
  rintro e w2 ⟨rfl, rfl⟩
  cases G
  rotate_left
  · go_wp2_with fail
    go_ret
    exact ⟨_, rfl, rfl, HB.out.2⟩
  have hl60 := Pl.great50_few H0.out.2.1
  obtain ⟨G1, hG1⟩ : ∃ G1, G1 = sel true (prs R) := ⟨_, rfl⟩
  obtain ⟨S1, hS1⟩ : ∃ S1, S1 = sel false (prs R) := ⟨_, rfl⟩
  have hlens := sel_lens R
  rw [← hG1, ← hS1, ← H0.out.2.2.2.2.2.1] at hlens
  have hgone := gone_any R s p c w1 hl60 H0.out.2.2.2.2.1 HB.out.1.rt
  rw [rtV_L, ← H0.out.2.2.1, ← hG1] at hgone
  obtain ⟨M, hM⟩ : ∃ M, M = G1.length := ⟨_, rfl⟩
  unfold RefsOut at hgone
  rw [← hM] at hgone hlens
  obtain ⟨N1, hN1⟩ : ∃ N1, N1 = S1.length := ⟨_, rfl⟩
  rw [← hN1] at hlens
  have hN60 : N ≤ 60 := by rw [H0.out.2.2.2.2.2.1]; exact hl60
  have HH := Lib.hid (And.intro hl60 (And.intro hgone (And.intro hG1 (And.intro hS1 (And.intro hM hN1))))); clear hl60 hgone hG1 hS1 hM hN1 x2
  go_wp2_with (with_reducible refine wpList_load_mid rfl 28 _ rfl w.heap.size 0 rfl L _ HB.out.1.range Try.underlying28 rfl HB.out.1.info ?_)
  refine HH.out.2.1.mono ?_
  rintro e w3 ⟨v3, rfl, ho3, hb3⟩
  have bx3 := HB.out.1.below hb3
  have hbw3 := HB.out.2.trans (hb3.mono HB.out.2.size)
  obtain ⟨A3, k3, rfl⟩ := own_form' ho3
  have hr3 := Rd.own ho3
  have H3 := Lib.hid (And.intro bx3 (And.intro hbw3 hr3)); clear bx3 hbw3 ho3 hr3 hb3 HB
  go_wp2_with fail
  go_loopw [4] (fun i wr => ∃ j : Nat, j ≤ M ∧ i = .int .i64 j ∧ Below w3.heap.size w3 wr) (fun i _ => M - (intOf i).toNat)
  case atStart => exact ⟨0, by omega, rfl, Below.refl _ _⟩
  case round =>
    obtain ⟨j, hj, rfl, hb⟩ := hrel
    have bx := H3.out.1.below hb
    have hbw := H3.out.2.1.trans (hb.mono H3.out.2.1.size)
    by_cases hjM : j < M
    · obtain ⟨b, off, rfl, hbl, -⟩ := H3.out.2.2.all (by omega)
      obtain ⟨x, hx⟩ : ∃ x, G1.getD j default = x := ⟨_, rfl⟩
      have hxm : x ∈ G1 := by rw [← hx]; exact Pl.getD_mem G1 j (by rw [← HH.out.2.2.2.2.1]; exact hjM)
      rw [HH.out.2.2.1] at hxm
      have hno : decide (R.now < x.til) = false := by
        obtain ⟨-, h⟩ := sel_prs hxm
        unfold keepF at h
        simp only [Bool.not_true, Bool.or_eq_false_iff] at h
        exact h.2
      have hrg := rf_range (H3.out.2.2.below hb) HH.out.2.2.2.2.1.symm hjM
      rw [hx] at hrg
      have hhd := fun W => held_rf x R.now W
      rw [hno] at hhd
      obtain ⟨X, hX⟩ : ∃ X, X = rfC x := ⟨_, rfl⟩
      rw [← hX] at hrg hhd
      have hX5 : X.length = 5 := by rw [hX]; rfl
      have hifx : (Try.prog.info? 38).map (·.size) = some X.length := by rw [hX5]; exact info_ref5
      have y1 := bx.now
      obtain ⟨nn, hnn⟩ : ∃ nn, nn = R.now := ⟨_, rfl⟩
      rw [← hnn] at y1 hhd
      have j0 : (0 : Int) ≤ (j : Int) := by omega
      have j1 : (j : Int) < (M : Int) := by omega
      have HX := Lib.hid (And.intro hhd (And.intro hX (And.intro hnn hb))); clear hhd hX hnn hb hno hxm hx bx hbw
      go_wp2_with fail
      refine wp_region_held_drew (S := (fun w' => HeldY w.heap.size b (off + j * 5) nn X w')) (by kernel_rfl) (by exact ⟨y1, hrg⟩) (fun hHeld => ?_)
      refine wpAnyH_take (i := 0) (v := ?_) rfl (by kernel_rfl) (by kernel_rfl) (by kernel_rfl) (fun _ _ _ h => h) (Or.inl ⟨by kernel_rfl, ?_⟩) hHeld ?_
      rotate_left
      · (intro w' hSw; obtain ⟨hS0, hS1⟩ := hSw; go_simp; try with_reducible rfl)
      simp only [Act.put, List.setIfInBounds_toArray, List.set_cons_zero, List.set_cons_succ, List.getElem_toArray, List.getElem_cons_succ, List.getElem_cons_zero]
      refine wpAnyH_take (i := 1) (v := ?_) rfl (by kernel_rfl) (by kernel_rfl) (by kernel_rfl) (fun _ _ _ h => h) (Or.inl ⟨by kernel_rfl, ?_⟩) hHeld ?_
      rotate_left
      · (intro w' hSw; obtain ⟨hS0, hS1⟩ := hSw; go_simp; try with_reducible rfl)
      simp only [Act.put, List.setIfInBounds_toArray, List.set_cons_zero, List.set_cons_succ, List.getElem_toArray, List.getElem_cons_succ, List.getElem_cons_zero]
      refine wpAnyH_take (i := 2) (v := ?_) rfl (by kernel_rfl) (by kernel_rfl) (by kernel_rfl) (fun _ _ _ h => h) (Or.inl ⟨by kernel_rfl, ?_⟩) hHeld ?_
      rotate_left
      · (intro w' hSw; obtain ⟨hS0, hS1⟩ := hSw; go_simp; try with_reducible rfl)
      simp only [Act.put, List.setIfInBounds_toArray, List.set_cons_zero, List.set_cons_succ, List.getElem_toArray, List.getElem_cons_succ, List.getElem_cons_zero]
      refine wpAnyH_take (i := 3) (v := .agg (X).toArray) rfl (by kernel_rfl) (by kernel_rfl) (by kernel_rfl) (fun _ _ _ h => h) (yieldsIf_load_mid (by kernel_rfl) 38 _ rfl (b) (off + j * 5) rfl X _ (fun _ h => h.r) Try.underlying38 rfl hifx) hHeld ?_
      simp only [Act.put, List.setIfInBounds_toArray, List.set_cons_zero, List.set_cons_succ, List.getElem_toArray, List.getElem_cons_succ, List.getElem_cons_zero]
      refine wpAnyH_take (i := 4) (v := ?_) rfl (by kernel_rfl) (by kernel_rfl) (by kernel_rfl) (fun _ _ _ h => h) (Or.inl ⟨by kernel_rfl, ?_⟩) hHeld ?_
      rotate_left
      · (intro w' hSw; obtain ⟨hS0, hS1⟩ := hSw; go_simp; try with_reducible rfl)
      simp only [Act.put, List.setIfInBounds_toArray, List.set_cons_zero, List.set_cons_succ, List.getElem_toArray, List.getElem_cons_succ, List.getElem_cons_zero]
      refine wpAnyH_take (i := 5) (v := ?_) rfl (by kernel_rfl) (by kernel_rfl) (by kernel_rfl) (fun _ _ _ h => h) (Or.inl ⟨by kernel_rfl, ?_⟩) hHeld ?_
      rotate_left
      · (intro w' hSw; obtain ⟨hS0, hS1⟩ := hSw; go_simp; try with_reducible rfl)
      simp only [Act.put, List.setIfInBounds_toArray, List.set_cons_zero, List.set_cons_succ, List.getElem_toArray, List.getElem_cons_succ, List.getElem_cons_zero]
      generalize hWd : wr.drew = Wd at hHeld ⊢
      have hbd : Below wr.heap.size wr Wd := by rw [← hWd]; exact (Below.refl _ _).drew
      clear hWd
      have hHeld0 := hHeld
      refine wpAnyH_ready (rs := [6]) (by kernel_rfl) (by simp) (AllReadyH.cons rfl (fun K hK => ?_) AllReadyH.nil)
      go_simp
      refine (HX.out.1 Wd).mono ?_
      rintro e W6 ⟨v, rfl, rfl, hb6⟩
      refine hK.out _ _ (by exact ⟨(hb6.cell (p := ⟨w.heap.size, 1, none⟩) (World.block_lt_of_cell? Wd _ hHeld0.x)).trans hHeld0.x, fun q v hq => (hb6.cell (p := ⟨b, off + j * 5 + q, none⟩) (World.block_lt_of_cell? Wd _ (hHeld0.r q v hq))).trans (hHeld0.r q v hq)⟩) (fun hHeld => ?_)
      clear hK K
      (try simp only [Act.put, List.setIfInBounds_toArray, List.set_cons_zero, List.set_cons_succ, List.getElem_toArray, List.getElem_cons_succ, List.getElem_cons_zero])
      refine wpAnyH_done (by kernel_rfl) ?_ _
      have hbz := HX.out.2.2.2.trans ((hbd.trans (hb6.mono hbd.size)).mono HX.out.2.2.2.size)
      clear hHeld hHeld0 y1 hrg
      go_wp2_with fail
      exact ⟨⟨j + 1, by omega, rfl, hbz⟩, by simp [intOf]; omega⟩
    · obtain rfl : j = M := by omega
      have htrim := trim_any R s p c wr HH.out.1 H0.out.2.2.2.2.1 bx.rt
      rw [rtV_L, ← H0.out.2.2.1, ← HH.out.2.2.2.1] at htrim
      have HB := Lib.hid (And.intro bx (And.intro hbw htrim)); clear bx hbw htrim hb
      go_wp2_with (with_reducible refine wpList_load_mid rfl 28 _ rfl w.heap.size 0 rfl L _ HB.out.1.range Try.underlying28 rfl HB.out.1.info ?_)
      refine HB.out.2.2.mono ?_
      rintro e w5 ⟨v, rfl, ⟨s5, p5, c5, rfl, hrt5⟩, hb5⟩
      have bx5 := HB.out.1.below hb5
      have hbw5 := HB.out.2.1.trans (hb5.mono HB.out.2.1.size)
      obtain ⟨A5, k5, hs5, hrd5, -⟩ := hrt5.s
      subst hs5
      simp only [rtV]
      have y2 := bx5.refs
      rw [H0.out.2.2.2.2.2.2.2] at y2
      rw [← HH.out.2.2.2.2.2] at hrd5 ⊢
      have hrd := H0.out.2.2.2.2.2.2.1.below hbw5
      have HB := Lib.hid (And.intro hbw5 (And.intro hrd5 hrd)); clear hbw5 bx5 hrt5 hb5 hrd5 hrd
      have hsum : (N1 : Int) + (j : Int) = (N : Int) := by omega
      have hfd := fun W => field_refs (.int .i64 R.n) (.int .i64 R.now) (.slice A5 N1 k5) p5 (.int .i64 R.p.d) (.int .i64 R.p.w) (.int .i64 R.p.mo) (.int .i64 R.p.y) c5 W
      go_wp2_with fail
      clear hfd
      go_loopw [6] (fun i wr => ∃ (q k : Nat), q ≤ N ∧ i = .int .i64 (q : Nat) ∧ wr = w5.drewN k) (fun i _ => N - (intOf i).toNat)
      case atStart => exact ⟨0, 0, by omega, rfl, rfl⟩
      case round =>
        obtain ⟨i, kk, hi, rfl, hwr⟩ := hrel
        have z2 : wr.cell? ⟨w.heap.size, 2, none⟩ = some (.slice A N k0) := by rw [hwr]; exact y2
        have hbw : Below w.heap.size w wr := by rw [hwr]; exact below_drewN HB.out.1 kk
        by_cases hin : i < N
        · have hil : i < R.l.length := by rw [← H0.out.2.2.2.2.2.1]; exact hin
          have hr1 : Rd wr 5 A5 N1 (rfCs S1) := by rw [hwr]; exact HB.out.2.1.drewN kk
          have hr2 : Rd wr 5 A N (rfCs R.l) := by rw [hwr]; exact HB.out.2.2.drewN kk
          obtain ⟨b, off, rfl, hbl, hrf⟩ := hr2.rf H0.out.2.2.2.2.2.1.symm hin
          obtain ⟨x, hx⟩ : ∃ x, R.l.getD i default = x := ⟨_, rfl⟩
          have c0 := (hrf x hx).1
          obtain ⟨xm, hxm⟩ : ∃ m, m = x.m := ⟨_, rfl⟩
          rw [← hxm] at c0
          have hany : (S1.any fun y => y.m == xm) = true := by
            rw [List.any_eq_true, HH.out.2.2.2.1, sel_false_eq]
            obtain ⟨y, hy, h1, h2⟩ := one_stays R.p R.l R.now (x := x) (by rw [← hx]; exact Pl.getD_mem R.l i hil)
            exact ⟨y, List.mem_filter.2 ⟨hy, h2⟩, by rw [beq_iff_eq, h1, hxm]⟩
          have hi0 : (0 : Int) ≤ (i : Int) := by omega
          have hi1 : (i : Int) < (N : Int) := by omega
          have HI := Lib.hid (And.intro hwr (And.intro hr1 (And.intro hany hbw))); clear hwr hr1 hr2 hrf hx hxm hany hbw y2
          generalize wr = U at z2 c0 hbl HI ⊢
          go_wp2_with fail
          go_loopw [7, 8] (fun t i w2 => ∃ (q k : Nat), q ≤ N1 ∧ i = .int .i64 (q : Nat) ∧ t = .bool ((S1.take q).any fun y => y.m == xm) ∧ w2 = U.drewN k) (fun _ i _ => N1 - (intOf i).toNat)
          case atStart => exact ⟨0, 0, by omega, rfl, rfl, rfl⟩
          case round =>
            obtain ⟨q, k', hq, rfl, rfl, hwr⟩ := hrel
            have t2 : wr.cell? ⟨w.heap.size, 2, none⟩ = some (.slice (some ⟨b, off, none⟩) N k0) := by rw [hwr]; exact z2
            have d0 : wr.cell? ⟨b, off + i * 5, none⟩ = some (.string ⟨xm.toArray⟩) := by rw [hwr]; exact c0
            by_cases hqN : q < N1
            · have hr1 : Rd wr 5 A5 N1 (rfCs S1) := by rw [hwr]; exact HI.out.2.1.drewN k'
              obtain ⟨b9, o9, rfl, hb9, hrf9⟩ := hr1.rf HH.out.2.2.2.2.2.symm hqN
              obtain ⟨y, hy⟩ : ∃ y, S1.getD q default = y := ⟨_, rfl⟩
              have e0 := (hrf9 y hy).1
              have htk : ((S1.take (q + 1)).any fun y => y.m == xm) = ((S1.take q).any (fun y => y.m == xm) || (y.m == xm)) := by
                have hql : q < S1.length := by rw [← HH.out.2.2.2.2.2]; exact hqN
                rw [List.take_succ_eq_append_getElem hql, List.any_append]
                have : S1[q] = y := by rw [← hy, List.getD_eq_getElem?_getD, List.getElem?_eq_getElem hql]; rfl
                rw [this]; simp
              obtain ⟨T, hT⟩ : ∃ T, (S1.take q).any (fun y => y.m == xm) = T := ⟨_, rfl⟩
              rw [hT] at htk ⊢
              obtain ⟨ym, hym⟩ : ∃ m, m = y.m := ⟨_, rfl⟩
              rw [← hym] at e0 htk
              have hq0 : (0 : Int) ≤ (q : Int) := by omega
              have hq1 : (q : Int) < (N1 : Int) := by omega
              have HQ := Lib.hid (And.intro htk (And.intro hT hwr)); clear htk hT hwr hy hym hrf9 hr1
              cases T
              · obtain ⟨z, hz⟩ : ∃ z, (ym == xm) = z := ⟨_, rfl⟩
                go_wp2_with fail
                go_quiet (fail)
                go_wp2_with fail
                rw [HQ.out.2.2]
                go_roundw
                case rel => exact ⟨q + 1, _, by omega, by go_num, by rw [HQ.out.1, hz, Bool.false_or], World.drewN_drewN _ _ _⟩
                case measure => simp [intOf]; omega
              · go_wp2_with fail
                go_quiet (fail)
                go_wp2_with fail
                rw [HQ.out.2.2]
                go_roundw
                case rel => exact ⟨q + 1, _, by omega, by go_num, by rw [HQ.out.1]; rfl, World.drewN_drewN _ _ _⟩
                case measure => simp [intOf]; omega
            · obtain rfl : q = N1 := by omega
              rw [List.take_of_length_le (by rw [← HH.out.2.2.2.2.2]; exact Nat.le_refl _), HI.out.2.2.1]
              have HQ := Lib.hid hwr; clear hwr
              go_wp2_with fail
              rw [HQ.out, HI.out.1]
              go_roundw
              case rel => exact ⟨i + 1, _, by omega, by go_num, World.drewN_drewN _ _ _⟩
              case measure => simp [intOf]; omega
        · obtain rfl : i = N := by omega
          go_wp2_with fail
          go_ret
          exact ⟨_, rfl, rfl, below_drewN HB.out.1 kk⟩
-- FRAME
set_option maxRecDepth 100000 in
theorem holdStays_lifted (os : Os) (started : os.Started) (H : Type) (enc : TypeId × Value → H) :
    ReturnsInHanded {} Try.checked os 7 .any (Rows.holdStaysSpec.pre6 enc Try.prog Try.f7 Rows.holdStaysRow.domain false) (Rows.holdStaysSpec.post enc Try.prog Try.f7 false true false false) := by
  refine returnsInHanded_of_change_sized (C := Try.checked) own started (by kernel_rfl) Try.func7
    (ChangeSpec.witness6 (enc := enc) (C := Try.checked) false ⟨#[], #[.agg #[.int .i64 0, .int .i64 0, .slice none 0 0, .slice none 0 0, .int .i64 0, .int .i64 0, .int .i64 0, .int .i64 0, .slice none 0 0]], []⟩ 8 (by kernel_rfl) (by kernel_rfl) (by kernel_rfl) (by kernel_rfl)) ?_
  intro W base args ds gs before hval0 hW hcnd hsz0 _
  have hval : ∀ (j : Nat) t v, Try.f7.params[j]? = some t → args[j]? = some v → Value.okWide Try.prog W .any base t v := hval0
  have hW' := hW
  obtain ⟨p, q, hA0, hV, rfl, hfz, hnd⟩ := hW
  have hA : DataW.TrodAll enc Try.prog W 0 (fun _ => true) true Try.f7.params.toList args.toList ds p := hA0
  have hsz : (DataW.weightsEach Try.prog (Try.f7.params.toList ++ Rows.holdStaysSpec.plain.varTypes Try.prog) (ds ++ gs)).all (· ≤ reachBytes) = true := hsz0
  rw [Try.params7] at hA hval hsz
  obtain ⟨v0, vs0, d0, ds0, p0, q0, hargs, rfl, rfl, h0, r0⟩ := trodAll_cons hA
  obtain ⟨rfl, rfl, rfl⟩ := trodAll_nil r0
  obtain rfl : args = #[v0] := by cases args; simp_all
  obtain ⟨rfl, rfl⟩ := trodVars_none hV
  have k0 := h0
  have lt0 : ∀ x ∈ p0, x.block < W.heap.size := by obtain ⟨m, hm⟩ := k0; exact DataW.trod_lt m _ _ _ hm
  have hz0 : ∀ m ∈ d0.weights Try.prog 28, m ≤ reachBytes := fun m hm => by
    have h1 := List.all_eq_true.1 hsz m (DataW.weights_mem_each (j := 0) rfl rfl m hm)
    simpa using h1
  obtain ⟨R0, s0, p0, c0, rfl, eA0, eB0, eC0⟩ := open_root (hval 0 28 v0 rfl rfl) h0 hz0
  clear hA0 hval0 hsz0
  refine (holdStays_walk R0 s0 p0 c0 W eA0 eB0 eC0).mono fun e W' ⟨v, he, hv, bel⟩ => ?_
  subst he hv
  exact ⟨_, rfl, _, _, _, [], _, [], hW', trodAll_mk1 (shut_bool Try.underlying4 _), (trodAll_cons_mk (Below.trod laidOut (by kernel_rfl) (of_decide_eq_true (by kernel_rfl)) k0 bel lt0) trodAll_mk0), rfl, bel.frame _, fun h => by cases h⟩

theorem holdStays_holds : Rows.HoldStaysSaid :=
  OpenClaim.holds_of_wide 7 Try.f7 rfl rfl rfl rfl rfl rfl rfl ⟨rfl, rfl, rfl, rfl, rfl⟩ rfl rfl rfl rfl rfl (by kernel_rfl) Try.func7 (by kernel_rfl)
    (of_decide_eq_true (by kernel_rfl)) (by unfold Func.isWrapper; first | (rw [if_pos (by decide +kernel)]; kernel_rfl) | (rw [if_neg (by decide +kernel)]; exact ⟨rfl, rfl⟩))
    (fun os started H enc _ => holdStays_lifted os started H enc)
#print axioms holdStays_holds
end Go.Proofs.Yteamkiblogbfmaa
