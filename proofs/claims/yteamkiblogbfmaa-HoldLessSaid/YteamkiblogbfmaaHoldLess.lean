/- HoldLess holds: a hold that is set takes at most snapshots of its own machine from those that may go, and adds none. No condition. -/
import Derived.Test.YteamkiblogbfmaaOpenRt
import Derived.Test.YteamkiblogbfmaaHoldPl4
import Derived.Test.YteamkiblogbfmaaHoldLater
import Derived.Lib.SmallJoins
namespace Go.Proofs.Yteamkiblogbfmaa
open Go.ChangeShapes Go.WideShapes Go.ChangeAt Go.RowKit
set_option linter.unusedVariables false
set_option linter.unusedSimpArgs false
structure HeldG (B : Nat) (L : List Value) (B3 : Nat) (L3 : List Value) (W : World) : Prop where
  r : W.rangeAt B 0 L
  s : W.rangeAt B3 0 L3
set_option maxRecDepth 100000 in
set_option maxHeartbeats 8000000 in
theorem holdLess_walk (R : Pl.Rt) (s p c : Value) (k : Nat) (til : Int) (w : World) (hrt : RtAt w R s p c) (hok : RtOk R) (hfit : ∀ x ∈ R.l, x.m.length ≤ 140737488355328 ∧ x.nm.length ≤ 140737488355328) (hk : k < 256) (ht1 : -9223372036854775808 ≤ til) (ht2 : til ≤ 9223372036854775807) :
    Calls Try.prog 5 #[rtV R s p c, .int .u8 k, .int .i64 til] w (RetB (fun v _ => v = .bool true) w) := by
  have hgreat := fun W (h : RtAt W R s p c) => great50_any s R.l W (by have := hok.l; omega) h.s hfit
  obtain ⟨G, hG⟩ : ∃ G, Pl.great50 R.l = G := ⟨_, rfl⟩
  rw [hG] at hgreat
  obtain ⟨A, k0, hsA, hrd, -⟩ := hrt.s
  obtain ⟨N, hN⟩ : ∃ N, N = R.l.length := ⟨_, rfl⟩
  rw [← hN] at hsA hrd
  obtain ⟨L, hL⟩ : ∃ L, L = rtL R s p c := ⟨_, rfl⟩
  have hNb : N ≤ 140737488355328 := by rw [hN]; have := hok.l; omega
  rw [rtV_L, ← hL]
  have H0 := Lib.hid (And.intro hgreat (And.intro hG (And.intro hL (And.intro hrt (And.intro hok (And.intro hN (And.intro hrd hsA))))))); clear hgreat hG hL hrt hok hfit hN hrd hsA
  go_enter Try.func5, Try.ntmps5
  go_upto_region 1 with (fail)
  generalize hV : World.alloc w _ = V
  obtain ⟨bx, hbV⟩ := rbox_arg H0.out.2.2.1 H0.out.2.2.2.1 hV
  clear hV
  go_wp2_with fail
  refine (alive_any V).mono ?_
  rintro e w1 ⟨v, rfl, rfl, hb1⟩
  have bx1 := bx.below hb1
  have hbw := hbV.trans (hb1.mono hbV.size)
  clear bx hb1 hbV
  have x2 := bx1.refs
  have HB := Lib.hid (And.intro bx1 hbw); clear bx1 hbw
  go_wp2_with fail
  refine (H0.out.1 w1 HB.out.1.rt).mono ?_
  rintro e w2 ⟨rfl, rfl⟩
  rw [H0.out.2.2.2.2.2.2.2] at x2
  cases G
  rotate_left
  · go_wp2_with fail
    go_ret
    exact ⟨_, rfl, rfl, HB.out.2⟩
  by_cases hN0 : N = 0
  · subst hN0
    go_wp2_with fail
    go_ret
    exact ⟨_, rfl, rfl, HB.out.2⟩
  have hl60 := Pl.great50_few H0.out.2.1
  have hN1 : ((N : Int) == 0) = false := by rw [beq_eq_false_iff_ne]; omega
  obtain ⟨b, off, rfl, hbl, -⟩ := H0.out.2.2.2.2.2.2.1.all (by omega)
  obtain ⟨j, hj⟩ : ∃ j, j = k % N := ⟨_, rfl⟩
  have hjN : j < N := by rw [hj]; exact Nat.mod_lt _ (by omega)
  obtain ⟨x, hx⟩ : ∃ x, R.l.getD j default = x := ⟨_, rfl⟩
  have hxm : x ∈ R.l := by rw [← hx]; exact Pl.getD_mem R.l j (by rw [← H0.out.2.2.2.2.2.1]; exact hjN)
  have hrg := rf_range (H0.out.2.2.2.2.2.2.1.below HB.out.2) H0.out.2.2.2.2.2.1.symm hjN
  rw [hx] at hrg
  obtain ⟨X, hX⟩ : ∃ X, X = rfC x := ⟨_, rfl⟩
  rw [← hX] at hrg
  have hX5 : X.length = 5 := by rw [hX]; rfl
  have hifx : (Try.prog.info? 38).map (·.size) = some X.length := by rw [hX5]; exact info_ref5
  have hifa : (Try.prog.info? 38).map (·.size) = some X.toArray.size := by rw [List.size_toArray]; exact hifx
  have h1X : X.toArray.all (·.oneCell') = true := all_oneCell_toArray (by rw [hX]; exact rfC_one x)
  have hwk : IntKind.i64.wrap (k : Int) = (k : Int) := IntWalk.i64_in _ (by omega)
  have hrem : ((k : Int).tmod (N : Int)) = (j : Int) := by rw [hj]; exact (Int.ofNat_tmod k N).symm
  have hrem2 : (k : Int) % (N : Int) = (j : Int) := by rw [hj]; exact (Int.natCast_emod k N).symm
  have hwj : IntKind.i64.wrap (j : Int) = (j : Int) := IntWalk.i64_in _ (by omega)
  have hj0 : (0 : Int) ≤ (j : Int) := by omega
  have hj1 : (j : Int) < (N : Int) := by omega
  have hNz : ¬ (N : Int) = 0 := by omega
  have HX := Lib.hid (And.intro hX (And.intro hxm (And.intro hx hj))); clear hX hxm hx hj
  go_upto_region 5 with (fail)
  refine wp_region_held_drew (S := (fun w' => HeldX w.heap.size b (off + j * 5) (.slice (some ⟨b, off, none⟩) N k0) X w')) (by kernel_rfl) (by exact ⟨x2, hrg⟩) (fun hHeld => ?_)
  refine wpAnyH_take (i := 0) (v := ?_) rfl (by kernel_rfl) (by kernel_rfl) (by kernel_rfl) (fun _ _ _ h => h) (Or.inl ⟨by kernel_rfl, ?_⟩) hHeld ?_
  rotate_left
  · (intro w' hSw; obtain ⟨hS0, hS1⟩ := hSw; go_simp; try with_reducible rfl)
  simp only [Act.put, List.setIfInBounds_toArray, List.set_cons_zero, List.set_cons_succ, List.getElem_toArray, List.getElem_cons_succ, List.getElem_cons_zero]
  refine wpAnyH_take (i := 1) (v := ?_) rfl (by kernel_rfl) (by kernel_rfl) (by kernel_rfl) (fun _ _ _ h => h) (Or.inl ⟨by kernel_rfl, ?_⟩) hHeld ?_
  rotate_left
  · (intro w' hSw; obtain ⟨hS0, hS1⟩ := hSw; go_simp; try with_reducible rfl)
  simp only [Act.put, List.setIfInBounds_toArray, List.set_cons_zero, List.set_cons_succ, List.getElem_toArray, List.getElem_cons_succ, List.getElem_cons_zero]
  refine wpAnyH_take (i := 2) (v := ?_) rfl (by kernel_rfl) (by kernel_rfl) (by kernel_rfl) (fun _ _ _ h => h) (Or.inl ⟨by kernel_rfl, ?_⟩) hHeld ?_
  rotate_left
  · (intro w' hSw; obtain ⟨hS0, hS1⟩ := hSw; go_simp; try with_reducible rfl)
  simp only [Act.put, List.setIfInBounds_toArray, List.set_cons_zero, List.set_cons_succ, List.getElem_toArray, List.getElem_cons_succ, List.getElem_cons_zero]
  refine wpAnyH_take (i := 3) (v := ?_) rfl (by kernel_rfl) (by kernel_rfl) (by kernel_rfl) (fun _ _ _ h => h) (Or.inl ⟨by kernel_rfl, ?_⟩) hHeld ?_
  rotate_left
  · (intro w' hSw; obtain ⟨hS0, hS1⟩ := hSw; go_simp; try with_reducible rfl)
  simp only [Act.put, List.setIfInBounds_toArray, List.set_cons_zero, List.set_cons_succ, List.getElem_toArray, List.getElem_cons_succ, List.getElem_cons_zero]
  refine wpAnyH_take (i := 4) (v := ?_) rfl (by kernel_rfl) (by kernel_rfl) (by kernel_rfl) (fun _ _ _ h => h) (Or.inl ⟨by kernel_rfl, ?_⟩) hHeld ?_
  rotate_left
  · (intro w' hSw; obtain ⟨hS0, hS1⟩ := hSw; go_simp; try with_reducible rfl)
  simp only [Act.put, List.setIfInBounds_toArray, List.set_cons_zero, List.set_cons_succ, List.getElem_toArray, List.getElem_cons_succ, List.getElem_cons_zero]
  refine wpAnyH_take (i := 5) (v := ?_) rfl (by kernel_rfl) (by kernel_rfl) (by kernel_rfl) (fun _ _ _ h => h) (Or.inl ⟨by kernel_rfl, ?_⟩) hHeld ?_
  rotate_left
  · (intro w' hSw; obtain ⟨hS0, hS1⟩ := hSw; go_simp; try with_reducible rfl)
  simp only [Act.put, List.setIfInBounds_toArray, List.set_cons_zero, List.set_cons_succ, List.getElem_toArray, List.getElem_cons_succ, List.getElem_cons_zero]
  refine wpAnyH_take (i := 6) (v := ?_) rfl (by kernel_rfl) (by kernel_rfl) (by kernel_rfl) (fun _ _ _ h => h) (Or.inl ⟨by kernel_rfl, ?_⟩) hHeld ?_
  rotate_left
  · (intro w' hSw; obtain ⟨hS0, hS1⟩ := hSw; go_simp; try with_reducible rfl)
  simp only [Act.put, List.setIfInBounds_toArray, List.set_cons_zero, List.set_cons_succ, List.getElem_toArray, List.getElem_cons_succ, List.getElem_cons_zero]
  refine wpAnyH_take (i := 7) (v := ?_) rfl (by kernel_rfl) (by kernel_rfl) (by kernel_rfl) (fun _ _ _ h => h) (Or.inl ⟨by kernel_rfl, ?_⟩) hHeld ?_
  rotate_left
  · (intro w' hSw; obtain ⟨hS0, hS1⟩ := hSw; go_simp; try with_reducible rfl)
  simp only [Act.put, List.setIfInBounds_toArray, List.set_cons_zero, List.set_cons_succ, List.getElem_toArray, List.getElem_cons_succ, List.getElem_cons_zero]
  refine wpAnyH_take (i := 8) (v := ?_) rfl (by kernel_rfl) (by kernel_rfl) (by kernel_rfl) (fun _ _ _ h => h) (Or.inl ⟨by kernel_rfl, ?_⟩) hHeld ?_
  rotate_left
  · (intro w' hSw; obtain ⟨hS0, hS1⟩ := hSw; go_simp; try with_reducible rfl)
  simp only [Act.put, List.setIfInBounds_toArray, List.set_cons_zero, List.set_cons_succ, List.getElem_toArray, List.getElem_cons_succ, List.getElem_cons_zero]
  refine wpAnyH_take (i := 9) (v := .agg (X).toArray) rfl (by kernel_rfl) (by kernel_rfl) (by kernel_rfl) (fun _ _ _ h => h) (yieldsIf_load_mid (by kernel_rfl) 38 _ rfl (b) (off + j * 5) rfl X _ (fun _ h => h.r) Try.underlying38 rfl hifx) hHeld ?_
  simp only [Act.put, List.setIfInBounds_toArray, List.set_cons_zero, List.set_cons_succ, List.getElem_toArray, List.getElem_cons_succ, List.getElem_cons_zero]
  have bx0 := HB.out.1.below (Below.refl _ _).drew
  have hbw0 := HB.out.2.drew
  generalize w1.drew = V0 at hHeld bx0 hbw0 ⊢
  clear HB x2 hrg
  have hHeld0 := hHeld
  refine wpAnyH_ready (rs := [10]) (by kernel_rfl) (by simp) (AllReadyH.cons rfl (fun K hK => ?_) AllReadyH.nil)
  go_simp
  have hTx := rf_there V0 hX5
  have y2 : (V0.alloc (.cells #[.string ⟨#[]⟩, .int .i64 0, .int .i64 0, .string ⟨#[]⟩, .int .i64 0] 38)).cell? ⟨w.heap.size, 2, none⟩ = some (.slice (some ⟨b, off, none⟩) N k0) := cell_al hHeld.x _
  have hg2 : (V0.alloc (.cells #[.string ⟨#[]⟩, .int .i64 0, .int .i64 0, .string ⟨#[]⟩, .int .i64 0] 38)).rangeAt b (off + j * 5) X := fun q v hq => cell_al (hHeld.r q v hq) _
  refine hK.out _ _ (by exact ⟨y2, hg2⟩) (fun hHeld => ?_)
  clear hK K
  (try simp only [Act.put, List.setIfInBounds_toArray, List.set_cons_zero, List.set_cons_succ, List.getElem_toArray, List.getElem_cons_succ, List.getElem_cons_zero])
  refine wpAnyH_ready (rs := [11]) (by kernel_rfl) (by simp) (AllReadyH.cons rfl (fun K hK => ?_) AllReadyH.nil)
  refine wp_store_mid 38 _ _ rfl V0.heap.size 0 X.toArray rfl rfl hTx hifa h1X ?_
  generalize hW4 : World.setCells _ _ _ _ = W4
  obtain ⟨hxb, hb4⟩ := rfbox_new hX5 hW4
  have bx4 := bx0.below hb4
  have hbw4 := hbw0.trans (hb4.mono hbw0.size)
  have y2 := bx4.refs
  have hg2 : W4.rangeAt b (off + j * 5) X := fun q v hq => (hb4.cell (p := ⟨b, off + j * 5 + q, none⟩) (World.block_lt_of_cell? V0 _ (hHeld0.r q v hq))).trans (hHeld0.r q v hq)
  rw [H0.out.2.2.2.2.2.2.2] at y2
  refine hK.out _ _ (by exact ⟨y2, hg2⟩) (fun hHeld => ?_)
  clear hK K
  (try simp only [Act.put, List.setIfInBounds_toArray, List.set_cons_zero, List.set_cons_succ, List.getElem_toArray, List.getElem_cons_succ, List.getElem_cons_zero])
  refine wpAnyH_done (by kernel_rfl) ?_ _
  clear hHeld hHeld0 hTx y2 hg2 hW4 hb4 bx0 hbw0
  have xb4 : XBox W4 V0.heap.size x := ⟨by rw [← HX.out.1]; exact hxb⟩
  generalize V0.heap.size = Bx at xb4 ⊢
  clear hxb hrem hrem2 hwk hwj hj0 hj1 hNz hN1 hifx hifa h1X hX5 hjN
  obtain ⟨m, hm⟩ : ∃ m, m = x.m := ⟨_, rfl⟩
  obtain ⟨n, hn⟩ : ∃ n, n = x.n := ⟨_, rfl⟩
  obtain ⟨E, hE⟩ : ∃ E, Pl.setE R m n til = E := ⟨_, rfl⟩
  obtain ⟨R', hR'⟩ : ∃ R', Pl.setR R m n til = R' := ⟨_, rfl⟩
  have hok' : RtOk R' := by rw [← hR']; exact H0.out.2.2.2.2.1.setR m n til ⟨ht1, ht2⟩
  have hl' : R'.l.length ≤ R.l.length := by rw [← hR']; exact setR_len R m n til
  have hset := fun W (h : RtAt W R s p c) => set_any R s p c m n til W H0.out.2.2.2.2.1 h
  unfold SetOut at hset
  rw [hE, hR', rtV_L, ← H0.out.2.2.1] at hset
  have x0 := xb4.m
  have x1 := xb4.n
  rw [← hm] at x0
  rw [← hn] at x1
  have HH := Lib.hid (And.intro hset (And.intro hok' (And.intro hl' (And.intro hE (And.intro hR' (And.intro hm hn)))))); clear hset hok' hl' hE hR' hm hn
  have HB := Lib.hid (And.intro bx4 (And.intro hbw4 xb4)); clear bx4 hbw4 xb4
  go_upto_region 6 with (fail)
  go_wp2_with (with_reducible refine wpList_load_mid rfl 28 _ rfl w.heap.size 0 rfl L _ HB.out.1.range Try.underlying28 rfl HB.out.1.info ?_)
  refine (HH.out.1 W4 HB.out.1.rt).mono ?_
  rintro e w5 ⟨v, rfl, ⟨rv, rfl, ⟨s3, p3, c3, rfl, hrt3⟩⟩, hb3⟩
  have bx5 := HB.out.1.below hb3
  have hbw5 := HB.out.2.1.trans (hb3.mono HB.out.2.1.size)
  have xb5 := HB.out.2.2.below hb3
  obtain ⟨L3, hL3⟩ : ∃ L3, L3 = rtL R' s3 p3 c3 := ⟨_, rfl⟩
  rw [rtV_L, ← hL3]
  have hT3 := rt_there w5 hL3
  have hi3 := rtL_info hL3
  have ho3 := rtL_one hL3 hrt3
  have H3 := Lib.hid (And.intro bx5 (And.intro hbw5 (And.intro xb5 (And.intro hL3 hrt3)))); clear bx5 hbw5 xb5 hL3 hrt3 hb3 HB x0 x1
  go_upto_region 7 with (with_reducible refine wpList_store_mid rfl 28 _ _ rfl w5.heap.size 0 L3.toArray rfl rfl hT3 hi3 ho3 ?_)
  generalize hW6 : World.setCells _ _ _ _ = W6
  obtain ⟨by6, hb6⟩ := rbox_new H3.out.2.2.2.1 H3.out.2.2.2.2 hW6
  have bx6 := H3.out.1.below hb6
  have xb6 := H3.out.2.2.1.below hb6
  have hbw6 := H3.out.2.1.trans (hb6.mono H3.out.2.1.size)
  clear hW6 hb6 hT3 hi3 ho3 H3
  generalize w5.heap.size = B3 at by6 ⊢
  have y2 := by6.refs
  have x0 := xb6.m
  have x1 := xb6.n
  rw [← HH.out.2.2.2.2.2.1] at x0
  rw [← HH.out.2.2.2.2.2.2] at x1
  have nw := bx6.now
  have HB := Lib.hid (And.intro bx6 (And.intro hbw6 (And.intro xb6 by6))); clear bx6 hbw6 xb6 by6
  by_cases hE : E = 0
  rotate_left
  · have hne : (E != 0) = true := by rw [bne_iff_ne]; exact hE
    have hz : R' = Pl.Rt.zero := by rw [← HH.out.2.2.2.2.1]; exact setR_no (by rw [HH.out.2.2.2.1]; exact hE)
    obtain ⟨A3, k3, hs3, -, -⟩ := HB.out.2.2.2.rt.s
    rw [hs3, hz, show Pl.Rt.zero.l.length = 0 from rfl] at y2
    have HZ := Lib.hid hE; clear hE
    go_wp2_with fail
    go_ret
    exact ⟨_, rfl, rfl, HB.out.2.1⟩
  subst hE
  have hgr := set_less HH.out.2.2.2.1
  rw [HH.out.2.2.2.2.1] at hgr
  obtain ⟨G1, hG1⟩ : ∃ G1, G1 = sel true (prs R) := ⟨_, rfl⟩
  obtain ⟨G2, hG2⟩ : ∃ G2, G2 = sel true (prs R') := ⟨_, rfl⟩
  rw [← hG1, ← hG2] at hgr
  have hlen := hgr.len
  have hl60' : R'.l.length ≤ 60 := Nat.le_trans HH.out.2.2.1 hl60
  have hgone1 := fun W (h : RtAt W R s p c) => gone_any R s p c W hl60 H0.out.2.2.2.2.1 h
  rw [rtV_L, ← H0.out.2.2.1, ← hG1] at hgone1
  have hgone2 := fun W (h : RtAt W R' s3 p3 c3) => gone_any R' s3 p3 c3 W hl60' HH.out.2.1 h
  rw [rtV_L, ← HB.out.2.2.2.l, ← hG2] at hgone2
  obtain ⟨M1, hM1⟩ : ∃ M, M = G1.length := ⟨_, rfl⟩
  obtain ⟨M2, hM2⟩ : ∃ M, M = G2.length := ⟨_, rfl⟩
  unfold RefsOut at hgone1 hgone2
  rw [← hM1] at hgone1 hlen
  rw [← hM2] at hgone2 hlen
  have hM60 : M1 ≤ 60 := by rw [hM1, hG1]; have h1 := sel_len true (prs R); rw [prs_len] at h1; omega
  have hxm7 := x0
  have hGG := Lib.hid (And.intro hgone1 (And.intro hgone2 (And.intro hM1 (And.intro hM2 (And.intro hgr (And.intro hG1 hG2)))))); clear hgone1 hgone2 hM1 hM2 hgr hG1 hG2 y2 x1 nw hl60'
  go_upto_region 9 with (fail)
  have hrA := HB.out.1.range
  have hrB := HB.out.2.2.2.range
  have hiA := HB.out.1.info
  have hiB := HB.out.2.2.2.info
  refine wp_region_held_drew (S := (fun w' => HeldG w.heap.size L B3 L3 w')) (by kernel_rfl) (by exact ⟨hrA, hrB⟩) (fun hHeld => ?_)
  refine wpAnyH_take (i := 0) (v := .agg (L).toArray) rfl (by kernel_rfl) (by kernel_rfl) (by kernel_rfl) (fun _ _ _ h => h) (yieldsIf_load_mid (by kernel_rfl) 28 _ rfl (w.heap.size) (0) rfl L _ (fun _ h => h.r) Try.underlying28 rfl hiA) hHeld ?_
  simp only [Act.put, List.setIfInBounds_toArray, List.set_cons_zero, List.set_cons_succ, List.getElem_toArray, List.getElem_cons_succ, List.getElem_cons_zero]
  refine wpAnyH_take (i := 2) (v := .agg (L3).toArray) rfl (by kernel_rfl) (by kernel_rfl) (by kernel_rfl) (fun _ _ _ h => h) (yieldsIf_load_mid (by kernel_rfl) 28 _ rfl (B3) (0) rfl L3 _ (fun _ h => h.s) Try.underlying28 rfl hiB) hHeld ?_
  simp only [Act.put, List.setIfInBounds_toArray, List.set_cons_zero, List.set_cons_succ, List.getElem_toArray, List.getElem_cons_succ, List.getElem_cons_zero]
  have HB0 := Lib.hid (And.intro (HB.out.1.below (Below.refl _ _).drew) (And.intro HB.out.2.1.drew (And.intro (HB.out.2.2.1.below (Below.refl _ _).drew) (HB.out.2.2.2.below (Below.refl _ _).drew))))
  generalize W6.drew = V9 at hHeld HB0 ⊢
  clear HB hrA hrB x0 hxm7
  refine wpAnyH_ready (rs := [1]) (by kernel_rfl) (by simp) (AllReadyH.cons rfl (fun K hK => ?_) AllReadyH.nil)
  go_simp
  refine (hGG.out.1 V9 HB0.out.1.rt).mono ?_
  rintro e w10 ⟨v10, rfl, ho10, hb10⟩
  have HC := Lib.hid (And.intro (HB0.out.1.below hb10) (And.intro (HB0.out.2.1.trans (hb10.mono HB0.out.2.1.size)) (And.intro (HB0.out.2.2.1.below hb10) (And.intro (HB0.out.2.2.2.below hb10) ho10))))
  clear HB0 hb10 ho10
  refine hK.out _ _ (by exact ⟨HC.out.1.range, HC.out.2.2.2.1.range⟩) (fun hHeld => ?_)
  clear hK K
  (try simp only [Act.put, List.setIfInBounds_toArray, List.set_cons_zero, List.set_cons_succ, List.getElem_toArray, List.getElem_cons_succ, List.getElem_cons_zero])
  refine wpAnyH_ready (rs := [3]) (by kernel_rfl) (by simp) (AllReadyH.cons rfl (fun K hK => ?_) AllReadyH.nil)
  go_simp
  refine (hGG.out.2.1 w10 HC.out.2.2.2.1.rt).mono ?_
  rintro e w11 ⟨v11, rfl, ho11, hb11⟩
  obtain ⟨A1, k1, rfl⟩ := own_form' HC.out.2.2.2.2
  obtain ⟨A2, k2, rfl⟩ := own_form' ho11
  have hr1 := (Rd.own HC.out.2.2.2.2).below hb11
  have hr2 := Rd.own ho11
  have hbw := HC.out.2.1.trans (hb11.mono HC.out.2.1.size)
  have xb := HC.out.2.2.1.below hb11
  have hA' := (HC.out.1.below hb11).range
  have hB' := (HC.out.2.2.2.1.below hb11).range
  refine hK.out _ _ (by exact ⟨hA', hB'⟩) (fun hHeld => ?_)
  clear hK K
  (try simp only [Act.put, List.setIfInBounds_toArray, List.set_cons_zero, List.set_cons_succ, List.getElem_toArray, List.getElem_cons_succ, List.getElem_cons_zero])
  refine wpAnyH_take (i := 4) (v := ?_) rfl (by kernel_rfl) (by kernel_rfl) (by kernel_rfl) (fun _ _ _ h => h) (Or.inl ⟨by kernel_rfl, ?_⟩) hHeld ?_
  rotate_left
  · (intro w' hSw; obtain ⟨hS0, hS1⟩ := hSw; go_simp; try with_reducible rfl)
  simp only [Act.put, List.setIfInBounds_toArray, List.set_cons_zero, List.set_cons_succ, List.getElem_toArray, List.getElem_cons_succ, List.getElem_cons_zero]
  refine wpAnyH_take (i := 5) (v := ?_) rfl (by kernel_rfl) (by kernel_rfl) (by kernel_rfl) (fun _ _ _ h => h) (Or.inl ⟨by kernel_rfl, ?_⟩) hHeld ?_
  rotate_left
  · (intro w' hSw; obtain ⟨hS0, hS1⟩ := hSw; go_simp; try with_reducible rfl)
  simp only [Act.put, List.setIfInBounds_toArray, List.set_cons_zero, List.set_cons_succ, List.getElem_toArray, List.getElem_cons_succ, List.getElem_cons_zero]
  refine wpAnyH_done (by kernel_rfl) ?_ _
  clear hHeld hA' hB' hiA hiB
  have x0 := xb.m
  rw [← HH.out.2.2.2.2.2.1] at x0
  have HD := Lib.hid (And.intro hbw (And.intro hr1 (And.intro hr2 x0))); clear hbw hr1 hr2 xb HC ho11 hb11 x0
  go_wp2_with fail
  go_loopw [12, 13] (fun a b wr => ∃ (i j k : Nat), i ≤ M1 ∧ j ≤ M2 ∧ a = .int .i64 i ∧ b = .int .i64 j ∧ Gr m (G1.drop i) (G2.drop j) ∧ wr = w11.drewN k) (fun _ b _ => M2 - (intOf b).toNat)
  case atStart => exact ⟨0, 0, 0, by omega, by omega, rfl, rfl, by simpa using hGG.out.2.2.2.2.1, rfl⟩
  case round =>
    obtain ⟨i, j, kk, hi, hj, rfl, rfl, hgr, hwr⟩ := hrel
    by_cases hjM : j < M2
    · have HI := Lib.hid (And.intro hgr hwr); clear hgr hwr
      have j0 : (0 : Int) ≤ (j : Int) := by omega
      have j1 : (j : Int) < (M2 : Int) := by omega
      generalize wr = U at HI ⊢
      go_wp2_with fail
      go_loopw [12] (fun a w2 => ∃ (i k : Nat), i ≤ M1 ∧ a = .int .i64 i ∧ Gr m (G1.drop i) (G2.drop j) ∧ w2 = U.drewN k) (fun a _ => M1 - (intOf a).toNat)
      case atStart => exact ⟨i, 0, by omega, rfl, HI.out.1, rfl⟩
      case round =>
        obtain ⟨i, k, hi, rfl, hgr, hwr⟩ := hrel
        have hiM : i < M1 := by rw [hGG.out.2.2.1]; exact hgr.more (by rw [← hGG.out.2.2.2.1]; exact hjM)
        have hr1 : Rd wr 5 A1 M1 (rfCs G1) := by rw [hwr, HI.out.2]; exact (HD.out.2.1.drewN kk).drewN k
        have hr2 : Rd wr 5 A2 M2 (rfCs G2) := by rw [hwr, HI.out.2]; exact (HD.out.2.2.1.drewN kk).drewN k
        have x0 : wr.cell? ⟨Bx, 0, none⟩ = some (.string ⟨m.toArray⟩) := by rw [hwr, HI.out.2]; exact HD.out.2.2.2
        obtain ⟨b1, o1, rfl, hb1, hrf1⟩ := hr1.rf hGG.out.2.2.1.symm hiM
        obtain ⟨b2, o2, rfl, hb2, hrf2⟩ := hr2.rf hGG.out.2.2.2.1.symm hjM
        obtain ⟨y, hy⟩ : ∃ y, G1.getD i default = y := ⟨_, rfl⟩
        obtain ⟨z, hz⟩ : ∃ z, G2.getD j default = z := ⟨_, rfl⟩
        obtain ⟨c0, c1, c2, c3, c4⟩ := hrf1 y hy
        obtain ⟨d0, d1, d2, d3, d4⟩ := hrf2 z hz
        have he := fun W => rf_eq y z W
        have i0 : (0 : Int) ≤ (i : Int) := by omega
        have i1 : (i : Int) < (M1 : Int) := by omega
        by_cases hyz : y = z
        · rw [(rfB_iff y z).2 hyz] at he
          have hn := hgr.dsame (by rw [← hGG.out.2.2.2.1]; exact hjM) (by rw [hy, hz]; exact hyz)
          have HJ := Lib.hid (And.intro hn hwr); clear hn hwr hgr hrf1 hrf2 hr1 hr2 hy hz hyz
          obtain ⟨ym, yn, yt, ynm, ytil⟩ := y
          obtain ⟨zm, zn, zt, znm, ztil⟩ := z
          simp only at c0 c1 c2 c3 c4 d0 d1 d2 d3 d4 he
          go_wp2_with fail
          go_quiet (fail)
          go_wp2_with fail
          rw [HJ.out.2, HI.out.2]
          go_roundw
          case rel => exact ⟨i + 1, j + 1, _, by omega, by omega, by go_num, by go_num, HJ.out.1, by rw [World.drewN_drewN, World.drewN_drewN]⟩
          case measure => simp [intOf]; omega
        · rw [(rfB_no y z).2 hyz] at he
          have hn := hgr.dskip (by rw [← hGG.out.2.2.2.1]; exact hjM) (by rw [hy, hz]; exact hyz)
          rw [hy] at hn
          have HJ := Lib.hid (And.intro hn.2 hwr)
          have hym := hn.1
          clear hn hwr hgr hrf1 hrf2 hr1 hr2 hy hz hyz
          obtain ⟨ym, yn, yt, ynm, ytil⟩ := y
          obtain ⟨zm, zn, zt, znm, ztil⟩ := z
          simp only at c0 c1 c2 c3 c4 d0 d1 d2 d3 d4 he hym
          subst hym
          go_wp2_with fail
          go_quiet (fail)
          go_wp2_with fail
          go_quiet (fail)
          go_wp2_with fail
          rw [HJ.out.2]
          go_roundw
          case rel => exact ⟨i + 1, _, by omega, by go_num, HJ.out.1, by rw [World.drewN_drewN]⟩
          case measure => simp [intOf]; omega
    · obtain rfl : j = M2 := by omega
      have HI := Lib.hid (And.intro hgr hwr); clear hgr hwr
      generalize wr = U at HI ⊢
      go_wp2_with fail
      go_loopw [12] (fun a w2 => ∃ (i k : Nat), i ≤ M1 ∧ a = .int .i64 i ∧ Gr m (G1.drop i) (G2.drop G2.length) ∧ w2 = U.drewN k) (fun a _ => M1 - (intOf a).toNat)
      case atStart => exact ⟨i, 0, by omega, rfl, by have := HI.out.1; rw [hGG.out.2.2.2.1] at this; exact this, rfl⟩
      case round =>
        obtain ⟨i, k, hi, rfl, hgr, hwr⟩ := hrel
        by_cases hiM : i < M1
        · have hr1 : Rd wr 5 A1 M1 (rfCs G1) := by rw [hwr, HI.out.2]; exact (HD.out.2.1.drewN kk).drewN k
          have x0 : wr.cell? ⟨Bx, 0, none⟩ = some (.string ⟨m.toArray⟩) := by rw [hwr, HI.out.2]; exact HD.out.2.2.2
          obtain ⟨b1, o1, rfl, hb1, hrf1⟩ := hr1.rf hGG.out.2.2.1.symm hiM
          obtain ⟨y, hy⟩ : ∃ y, G1.getD i default = y := ⟨_, rfl⟩
          have c0 := (hrf1 y hy).1
          have hn := hgr.dlast (by rw [← hGG.out.2.2.1]; exact hiM)
          rw [hy] at hn
          rw [hn.1] at c0
          have i0 : (0 : Int) ≤ (i : Int) := by omega
          have i1 : (i : Int) < (M1 : Int) := by omega
          have HJ := Lib.hid (And.intro hn.2 hwr); clear hn hwr hgr hrf1 hr1 hy
          go_wp2_with fail
          go_quiet (fail)
          go_wp2_with fail
          rw [HJ.out.2]
          go_roundw
          case rel => exact ⟨i + 1, _, by omega, by go_num, HJ.out.1, by rw [World.drewN_drewN]⟩
          case measure => simp [intOf]; omega
        · obtain rfl : i = M1 := by omega
          have HJ := Lib.hid hwr; clear hwr hgr
          go_wp2_with fail
          go_ret
          exact ⟨_, rfl, rfl, by rw [HJ.out, HI.out.2]; exact below_drewN (below_drewN HD.out.1 kk) k⟩
-- FRAME
set_option maxRecDepth 100000 in
theorem holdLess_lifted (os : Os) (started : os.Started) (H : Type) (enc : TypeId × Value → H) :
    ReturnsInHanded {} Try.checked os 5 .any (Rows.holdLessSpec.pre6 enc Try.prog Try.f5 Rows.holdLessRow.domain false) (Rows.holdLessSpec.post enc Try.prog Try.f5 false true false false) := by
  refine returnsInHanded_of_change_sized (C := Try.checked) own started (by kernel_rfl) Try.func5
    (ChangeSpec.witness6 (enc := enc) (C := Try.checked) false ⟨#[], #[.agg #[.int .i64 0, .int .i64 0, .slice none 0 0, .slice none 0 0, .int .i64 0, .int .i64 0, .int .i64 0, .int .i64 0, .slice none 0 0], .int .u8 0, .int .i64 0], []⟩ 8 (by kernel_rfl) (by kernel_rfl) (by kernel_rfl) (by kernel_rfl)) ?_
  intro W base args ds gs before hval0 hW hcnd hsz0 _
  have hval : ∀ (j : Nat) t v, Try.f5.params[j]? = some t → args[j]? = some v → Value.okWide Try.prog W .any base t v := hval0
  have hW' := hW
  obtain ⟨p, q, hA0, hV, rfl, hfz, hnd⟩ := hW
  have hA : DataW.TrodAll enc Try.prog W 0 (fun _ => true) true Try.f5.params.toList args.toList ds p := hA0
  have hsz : (DataW.weightsEach Try.prog (Try.f5.params.toList ++ Rows.holdLessSpec.plain.varTypes Try.prog) (ds ++ gs)).all (· ≤ reachBytes) = true := hsz0
  rw [Try.params5] at hA hval hsz
  obtain ⟨v0, vs0, d0, ds0, p0, q0, hargs, rfl, rfl, h0, r0⟩ := trodAll_cons hA
  obtain ⟨v1, vs1, d1, ds1, p1, q1, rfl, rfl, rfl, h1, r1⟩ := trodAll_cons r0
  obtain ⟨v2, vs2, d2, ds2, p2, q2, rfl, rfl, rfl, h2, r2⟩ := trodAll_cons r1
  obtain ⟨rfl, rfl, rfl⟩ := trodAll_nil r2
  obtain rfl : args = #[v0, v1, v2] := by cases args; simp_all
  obtain ⟨rfl, rfl⟩ := trodVars_none hV
  have k0 := h0
  have lt0 : ∀ x ∈ p0, x.block < W.heap.size := by obtain ⟨m, hm⟩ := k0; exact DataW.trod_lt m _ _ _ hm
  have hz0 : ∀ m ∈ d0.weights Try.prog 28, m ≤ reachBytes := fun m hm => by
    have h1 := List.all_eq_true.1 hsz m (DataW.weights_mem_each (j := 0) rfl rfl m hm)
    simpa using h1
  obtain ⟨R0, s0, p0, c0, rfl, eA0, eB0, eC0⟩ := open_root (hval 0 28 v0 rfl rfl) h0 hz0
  have k1 := h1
  have lt1 : ∀ x ∈ p1, x.block < W.heap.size := by obtain ⟨m, hm⟩ := k1; exact DataW.trod_lt m _ _ _ hm
  have hz1 : ∀ m ∈ d1.weights Try.prog 5, m ≤ reachBytes := fun m hm => by
    have h1 := List.all_eq_true.1 hsz m (DataW.weights_mem_each (j := 1) rfl rfl m hm)
    simpa using h1
  obtain ⟨x1, rfl, eA1⟩ := open_u8 (hval 1 5 v1 rfl rfl) h1 hz1
  have k2 := h2
  have lt2 : ∀ x ∈ p2, x.block < W.heap.size := by obtain ⟨m, hm⟩ := k2; exact DataW.trod_lt m _ _ _ hm
  have hz2 : ∀ m ∈ d2.weights Try.prog 2, m ≤ reachBytes := fun m hm => by
    have h1 := List.all_eq_true.1 hsz m (DataW.weights_mem_each (j := 2) rfl rfl m hm)
    simpa using h1
  obtain ⟨x2, rfl, eA2, eB2⟩ := open_l64 (hval 2 2 v2 rfl rfl) h2 hz2
  clear hA0 hval0 hsz0
  refine (holdLess_walk R0 s0 p0 c0 x1 x2 W eA0 eB0 eC0 eA1 eA2 eB2).mono fun e W' ⟨v, he, hv, bel⟩ => ?_
  subst he hv
  exact ⟨_, rfl, _, _, _, [], _, [], hW', trodAll_mk1 (shut_bool Try.underlying4 _), (trodAll_cons_mk (Below.trod laidOut (by kernel_rfl) (of_decide_eq_true (by kernel_rfl)) k0 bel lt0) (trodAll_cons_mk (Below.trod laidOut (by kernel_rfl) (of_decide_eq_true (by kernel_rfl)) k1 bel lt1) (trodAll_cons_mk (Below.trod laidOut (by kernel_rfl) (of_decide_eq_true (by kernel_rfl)) k2 bel lt2) trodAll_mk0))), rfl, bel.frame _, fun h => by cases h⟩

theorem holdLess_holds : Rows.HoldLessSaid :=
  OpenClaim.holds_of_wide 5 Try.f5 rfl rfl rfl rfl rfl rfl rfl ⟨rfl, rfl, rfl, rfl, rfl⟩ rfl rfl rfl rfl rfl (by kernel_rfl) Try.func5 (by kernel_rfl)
    (of_decide_eq_true (by kernel_rfl)) (by unfold Func.isWrapper; first | (rw [if_pos (by decide +kernel)]; kernel_rfl) | (rw [if_neg (by decide +kernel)]; exact ⟨rfl, rfl⟩))
    (fun os started H enc _ => holdLess_lifted os started H enc)
#print axioms holdLess_holds
end Go.Proofs.Yteamkiblogbfmaa
