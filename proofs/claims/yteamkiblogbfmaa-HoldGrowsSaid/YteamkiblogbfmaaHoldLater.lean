/- HoldLater holds: a hold that is set again for as long is OK, and changes nothing; for less it is ErrHeld; for more it is that. No condition. -/
import Derived.Test.YteamkiblogbfmaaOpenRt
import Derived.Test.YteamkiblogbfmaaOpen8
import Derived.Test.YteamkiblogbfmaaHoldTm
import Derived.Test.YteamkiblogbfmaaHoldPl2
import Derived.Lib.SmallJoins
import Derived.Lib.EndianMore
namespace Go.Proofs.Yteamkiblogbfmaa
open Go.ChangeShapes Go.WideShapes Go.ChangeAt Go.RowKit
set_option linter.unusedVariables false
set_option linter.unusedSimpArgs false
theorem info_ref5 : (Try.prog.info? 38).map (·.size) = some 5 := by kernel_rfl
theorem rf_range {w : World} {b off n : Nat} {l : List Pl.Rf} (h : Rd w 5 (some ⟨b, off, none⟩) n (rfCs l)) (hn : l.length = n) {j : Nat} (hj : j < n) : w.rangeAt b (off + j * 5) (rfC (l.getD j default)) := by
  obtain ⟨b', off', e, -, hc⟩ := h.all (by omega)
  injection e with e
  injection e with e1 e2
  subst e1 e2
  intro q v hq
  have hq5 : q < 5 := (List.getElem?_eq_some_iff.1 hq).1
  have hg := rfCs_get l j q (by omega) hq5
  have hl := h.len
  have hjl : j < l.length := by omega
  have e : l.getD j default = l[j] := by rw [List.getD_eq_getElem?_getD, List.getElem?_eq_getElem hjl]; rfl
  rw [e] at hq
  rw [Nat.add_assoc, hc (j * 5 + q) (by omega), hg, hq]
theorem rf_there (W : World) {X : List Value} (hX : X.length = 5) : (W.alloc (.cells #[.string ⟨#[]⟩, .int .i64 0, .int .i64 0, .string ⟨#[]⟩, .int .i64 0] 38)).there W.heap.size 0 X.toArray.size :=
  there_rowd (n := X.toArray.size) (heap_alloc_new W _) (by rw [List.size_toArray, hX]; exact Nat.le_refl _)
/-- A snapshot is laid into a box just made. -/
theorem rfbox_new {W W3 : World} {X : List Value} (hX : X.length = 5) (hW : (W.alloc (.cells #[.string ⟨#[]⟩, .int .i64 0, .int .i64 0, .string ⟨#[]⟩, .int .i64 0] 38)).setCells W.heap.size 0 X = W3) : W3.heap[W.heap.size]? = some (.cells X.toArray 38 (0, 0)) ∧ Below W.heap.size W W3 := by
  have hb : Below W.heap.size W W3 := by rw [← hW]; exact ((Below.refl _ _).alloc (Nat.le_refl _) _).trans (Lib.below_setCells_w (Nat.le_refl _) _ _ _)
  refine ⟨?_, hb⟩
  rw [← hW]
  exact heap_setCells_all (C := [.string ⟨#[]⟩, .int .i64 0, .int .i64 0, .string ⟨#[]⟩, .int .i64 0]) (heap_alloc_new W _) (by rw [hX]; rfl)
theorem cell_al {W : World} {a : Addr} {v : Value} (h : W.cell? a = some v) (o : Obj) : (W.alloc o).cell? a = some v :=
  (((Below.refl W.heap.size W).alloc (Nat.le_refl _) o).cell (World.block_lt_of_cell? W a h)).trans h
structure HeldX (B : Nat) (b o : Nat) (v : Value) (X : List Value) (W : World) : Prop where
  x : W.cell? ⟨B, 2, none⟩ = some v
  r : W.rangeAt b o X
/-- A snapshot's variable. -/
structure XBox (W : World) (B : Nat) (x : Pl.Rf) : Prop where
  at_ : W.heap[B]? = some (.cells (rfC x).toArray 38 (0, 0))
theorem XBox.below {W W' : World} {B : Nat} {x : Pl.Rf} (h : XBox W B x) (hb : Below W.heap.size W W') : XBox W' B x := ⟨(hb.block _ (blk_lt h.at_)).trans h.at_⟩
theorem XBox.m {W : World} {B : Nat} {x : Pl.Rf} (h : XBox W B x) : W.cell? ⟨B, 0, none⟩ = some (.string ⟨x.m.toArray⟩) := cell_row W _ 0 _ _ h.at_
theorem XBox.n {W : World} {B : Nat} {x : Pl.Rf} (h : XBox W B x) : W.cell? ⟨B, 1, none⟩ = some (.int .i64 x.n) := cell_row W _ 1 _ _ h.at_
set_option maxRecDepth 100000 in
set_option maxHeartbeats 8000000 in
theorem holdLater_walk (R : Pl.Rt) (s p c : Value) (k : Nat) (til oth : Int) (w : World) (hrt : RtAt w R s p c) (hok : RtOk R) (hfit : ∀ x ∈ R.l, x.m.length ≤ 140737488355328 ∧ x.nm.length ≤ 140737488355328) (hk : k < 256) (ht1 : -9223372036854775808 ≤ til) (ht2 : til ≤ 9223372036854775807) (ho1 : -9223372036854775808 ≤ oth) (ho2 : oth ≤ 9223372036854775807) :
    Calls Try.prog 4 #[rtV R s p c, .int .u8 k, .int .i64 til, .int .i64 oth] w (RetB (fun v _ => v = .bool true) w) := by
  have hgreat := fun W (h : RtAt W R s p c) => great50_any s R.l W (by have := hok.l; omega) h.s hfit
  obtain ⟨G, hG⟩ : ∃ G, Pl.great50 R.l = G := ⟨_, rfl⟩
  rw [hG] at hgreat
  obtain ⟨A, k0, hsA, hrd, -⟩ := hrt.s
  obtain ⟨N, hN⟩ : ∃ N, N = R.l.length := ⟨_, rfl⟩
  rw [← hN] at hsA hrd
  obtain ⟨L, hL⟩ : ∃ L, L = rtL R s p c := ⟨_, rfl⟩
  have hNb : N ≤ 140737488355328 := by rw [hN]; have := hok.l; omega
  rw [rtV_L, ← hL]
  have H0 := Lib.hid (And.intro hgreat (And.intro hG (And.intro hL (And.intro hrt (And.intro hok (And.intro hN (And.intro hrd hsA))))))); clear hgreat hG hL hrt hok hfit hN hrd hsA
  go_enter Try.func4, Try.ntmps4
  go_upto_region 1 with (fail)
  generalize hV : World.alloc w _ = V
  obtain ⟨bx, hbV⟩ := rbox_arg H0.out.2.2.1 H0.out.2.2.2.1 hV
  clear hV
  go_wp2_with fail
  refine (alive_any V).mono ?_
  rintro e w1 ⟨v, rfl, rfl, hb1⟩
  have bx1 := bx.below hb1
  have hbw := hbV.trans (hb1.mono hbV.size)
  clear bx hb1 hbV
  have x2 := bx1.refs
  have HB := Lib.hid (And.intro bx1 hbw); clear bx1 hbw
  go_wp2_with fail
  refine (H0.out.1 w1 HB.out.1.rt).mono ?_
  rintro e w2 ⟨rfl, rfl⟩
  rw [H0.out.2.2.2.2.2.2.2] at x2
  cases G
  rotate_left
  · go_wp2_with fail
    go_ret
    exact ⟨_, rfl, rfl, HB.out.2⟩
  by_cases hN0 : N = 0
  · subst hN0
    go_wp2_with fail
    go_ret
    exact ⟨_, rfl, rfl, HB.out.2⟩
  have hl60 := Pl.great50_few H0.out.2.1
  have hN1 : ((N : Int) == 0) = false := by rw [beq_eq_false_iff_ne]; omega
  obtain ⟨b, off, rfl, hbl, -⟩ := H0.out.2.2.2.2.2.2.1.all (by omega)
  obtain ⟨j, hj⟩ : ∃ j, j = k % N := ⟨_, rfl⟩
  have hjN : j < N := by rw [hj]; exact Nat.mod_lt _ (by omega)
  obtain ⟨x, hx⟩ : ∃ x, R.l.getD j default = x := ⟨_, rfl⟩
  have hxm : x ∈ R.l := by rw [← hx]; exact Pl.getD_mem R.l j (by rw [← H0.out.2.2.2.2.2.1]; exact hjN)
  have hrg := rf_range (H0.out.2.2.2.2.2.2.1.below HB.out.2) H0.out.2.2.2.2.2.1.symm hjN
  rw [hx] at hrg
  obtain ⟨X, hX⟩ : ∃ X, X = rfC x := ⟨_, rfl⟩
  rw [← hX] at hrg
  have hX5 : X.length = 5 := by rw [hX]; rfl
  have hifx : (Try.prog.info? 38).map (·.size) = some X.length := by rw [hX5]; exact info_ref5
  have hifa : (Try.prog.info? 38).map (·.size) = some X.toArray.size := by rw [List.size_toArray]; exact hifx
  have h1X : X.toArray.all (·.oneCell') = true := all_oneCell_toArray (by rw [hX]; exact rfC_one x)
  have hwk : IntKind.i64.wrap (k : Int) = (k : Int) := IntWalk.i64_in _ (by omega)
  have hrem : ((k : Int).tmod (N : Int)) = (j : Int) := by rw [hj]; exact (Int.ofNat_tmod k N).symm
  have hrem2 : (k : Int) % (N : Int) = (j : Int) := by rw [hj]; exact (Int.natCast_emod k N).symm
  have hwj : IntKind.i64.wrap (j : Int) = (j : Int) := IntWalk.i64_in _ (by omega)
  have hj0 : (0 : Int) ≤ (j : Int) := by omega
  have hj1 : (j : Int) < (N : Int) := by omega
  have hNz : ¬ (N : Int) = 0 := by omega
  have HX := Lib.hid (And.intro hX (And.intro hxm (And.intro hx hj))); clear hX hxm hx hj
  go_upto_region 5 with (fail)
  refine wp_region_held_drew (S := (fun w' => HeldX w.heap.size b (off + j * 5) (.slice (some ⟨b, off, none⟩) N k0) X w')) (by kernel_rfl) (by exact ⟨x2, hrg⟩) (fun hHeld => ?_)
  refine wpAnyH_take (i := 0) (v := ?_) rfl (by kernel_rfl) (by kernel_rfl) (by kernel_rfl) (fun _ _ _ h => h) (Or.inl ⟨by kernel_rfl, ?_⟩) hHeld ?_
  rotate_left
  · (intro w' hSw; obtain ⟨hS0, hS1⟩ := hSw; go_simp; try with_reducible rfl)
  simp only [Act.put, List.setIfInBounds_toArray, List.set_cons_zero, List.set_cons_succ, List.getElem_toArray, List.getElem_cons_succ, List.getElem_cons_zero]
  refine wpAnyH_take (i := 1) (v := ?_) rfl (by kernel_rfl) (by kernel_rfl) (by kernel_rfl) (fun _ _ _ h => h) (Or.inl ⟨by kernel_rfl, ?_⟩) hHeld ?_
  rotate_left
  · (intro w' hSw; obtain ⟨hS0, hS1⟩ := hSw; go_simp; try with_reducible rfl)
  simp only [Act.put, List.setIfInBounds_toArray, List.set_cons_zero, List.set_cons_succ, List.getElem_toArray, List.getElem_cons_succ, List.getElem_cons_zero]
  refine wpAnyH_take (i := 2) (v := ?_) rfl (by kernel_rfl) (by kernel_rfl) (by kernel_rfl) (fun _ _ _ h => h) (Or.inl ⟨by kernel_rfl, ?_⟩) hHeld ?_
  rotate_left
  · (intro w' hSw; obtain ⟨hS0, hS1⟩ := hSw; go_simp; try with_reducible rfl)
  simp only [Act.put, List.setIfInBounds_toArray, List.set_cons_zero, List.set_cons_succ, List.getElem_toArray, List.getElem_cons_succ, List.getElem_cons_zero]
  refine wpAnyH_take (i := 3) (v := ?_) rfl (by kernel_rfl) (by kernel_rfl) (by kernel_rfl) (fun _ _ _ h => h) (Or.inl ⟨by kernel_rfl, ?_⟩) hHeld ?_
  rotate_left
  · (intro w' hSw; obtain ⟨hS0, hS1⟩ := hSw; go_simp; try with_reducible rfl)
  simp only [Act.put, List.setIfInBounds_toArray, List.set_cons_zero, List.set_cons_succ, List.getElem_toArray, List.getElem_cons_succ, List.getElem_cons_zero]
  refine wpAnyH_take (i := 4) (v := ?_) rfl (by kernel_rfl) (by kernel_rfl) (by kernel_rfl) (fun _ _ _ h => h) (Or.inl ⟨by kernel_rfl, ?_⟩) hHeld ?_
  rotate_left
  · (intro w' hSw; obtain ⟨hS0, hS1⟩ := hSw; go_simp; try with_reducible rfl)
  simp only [Act.put, List.setIfInBounds_toArray, List.set_cons_zero, List.set_cons_succ, List.getElem_toArray, List.getElem_cons_succ, List.getElem_cons_zero]
  refine wpAnyH_take (i := 5) (v := ?_) rfl (by kernel_rfl) (by kernel_rfl) (by kernel_rfl) (fun _ _ _ h => h) (Or.inl ⟨by kernel_rfl, ?_⟩) hHeld ?_
  rotate_left
  · (intro w' hSw; obtain ⟨hS0, hS1⟩ := hSw; go_simp; try with_reducible rfl)
  simp only [Act.put, List.setIfInBounds_toArray, List.set_cons_zero, List.set_cons_succ, List.getElem_toArray, List.getElem_cons_succ, List.getElem_cons_zero]
  refine wpAnyH_take (i := 6) (v := ?_) rfl (by kernel_rfl) (by kernel_rfl) (by kernel_rfl) (fun _ _ _ h => h) (Or.inl ⟨by kernel_rfl, ?_⟩) hHeld ?_
  rotate_left
  · (intro w' hSw; obtain ⟨hS0, hS1⟩ := hSw; go_simp; try with_reducible rfl)
  simp only [Act.put, List.setIfInBounds_toArray, List.set_cons_zero, List.set_cons_succ, List.getElem_toArray, List.getElem_cons_succ, List.getElem_cons_zero]
  refine wpAnyH_take (i := 7) (v := ?_) rfl (by kernel_rfl) (by kernel_rfl) (by kernel_rfl) (fun _ _ _ h => h) (Or.inl ⟨by kernel_rfl, ?_⟩) hHeld ?_
  rotate_left
  · (intro w' hSw; obtain ⟨hS0, hS1⟩ := hSw; go_simp; try with_reducible rfl)
  simp only [Act.put, List.setIfInBounds_toArray, List.set_cons_zero, List.set_cons_succ, List.getElem_toArray, List.getElem_cons_succ, List.getElem_cons_zero]
  refine wpAnyH_take (i := 8) (v := ?_) rfl (by kernel_rfl) (by kernel_rfl) (by kernel_rfl) (fun _ _ _ h => h) (Or.inl ⟨by kernel_rfl, ?_⟩) hHeld ?_
  rotate_left
  · (intro w' hSw; obtain ⟨hS0, hS1⟩ := hSw; go_simp; try with_reducible rfl)
  simp only [Act.put, List.setIfInBounds_toArray, List.set_cons_zero, List.set_cons_succ, List.getElem_toArray, List.getElem_cons_succ, List.getElem_cons_zero]
  refine wpAnyH_take (i := 9) (v := .agg (X).toArray) rfl (by kernel_rfl) (by kernel_rfl) (by kernel_rfl) (fun _ _ _ h => h) (yieldsIf_load_mid (by kernel_rfl) 38 _ rfl (b) (off + j * 5) rfl X _ (fun _ h => h.r) Try.underlying38 rfl hifx) hHeld ?_
  simp only [Act.put, List.setIfInBounds_toArray, List.set_cons_zero, List.set_cons_succ, List.getElem_toArray, List.getElem_cons_succ, List.getElem_cons_zero]
  have bx0 := HB.out.1.below (Below.refl _ _).drew
  have hbw0 := HB.out.2.drew
  generalize w1.drew = V0 at hHeld bx0 hbw0 ⊢
  clear HB x2 hrg
  have hHeld0 := hHeld
  refine wpAnyH_ready (rs := [10]) (by kernel_rfl) (by simp) (AllReadyH.cons rfl (fun K hK => ?_) AllReadyH.nil)
  go_simp
  have hTx := rf_there V0 hX5
  have y2 : (V0.alloc (.cells #[.string ⟨#[]⟩, .int .i64 0, .int .i64 0, .string ⟨#[]⟩, .int .i64 0] 38)).cell? ⟨w.heap.size, 2, none⟩ = some (.slice (some ⟨b, off, none⟩) N k0) := cell_al hHeld.x _
  have hg2 : (V0.alloc (.cells #[.string ⟨#[]⟩, .int .i64 0, .int .i64 0, .string ⟨#[]⟩, .int .i64 0] 38)).rangeAt b (off + j * 5) X := fun q v hq => cell_al (hHeld.r q v hq) _
  refine hK.out _ _ (by exact ⟨y2, hg2⟩) (fun hHeld => ?_)
  clear hK K
  (try simp only [Act.put, List.setIfInBounds_toArray, List.set_cons_zero, List.set_cons_succ, List.getElem_toArray, List.getElem_cons_succ, List.getElem_cons_zero])
  refine wpAnyH_ready (rs := [11]) (by kernel_rfl) (by simp) (AllReadyH.cons rfl (fun K hK => ?_) AllReadyH.nil)
  refine wp_store_mid 38 _ _ rfl V0.heap.size 0 X.toArray rfl rfl hTx hifa h1X ?_
  generalize hW4 : World.setCells _ _ _ _ = W4
  obtain ⟨hxb, hb4⟩ := rfbox_new hX5 hW4
  have bx4 := bx0.below hb4
  have hbw4 := hbw0.trans (hb4.mono hbw0.size)
  have y2 := bx4.refs
  have hg2 : W4.rangeAt b (off + j * 5) X := fun q v hq => (hb4.cell (p := ⟨b, off + j * 5 + q, none⟩) (World.block_lt_of_cell? V0 _ (hHeld0.r q v hq))).trans (hHeld0.r q v hq)
  rw [H0.out.2.2.2.2.2.2.2] at y2
  refine hK.out _ _ (by exact ⟨y2, hg2⟩) (fun hHeld => ?_)
  clear hK K
  (try simp only [Act.put, List.setIfInBounds_toArray, List.set_cons_zero, List.set_cons_succ, List.getElem_toArray, List.getElem_cons_succ, List.getElem_cons_zero])
  refine wpAnyH_done (by kernel_rfl) ?_ _
  clear hHeld hHeld0 hTx y2 hg2 hW4 hb4 bx0 hbw0
  have xb4 : XBox W4 V0.heap.size x := ⟨by rw [← HX.out.1]; exact hxb⟩
  generalize V0.heap.size = Bx at xb4 ⊢
  clear hxb hrem hrem2 hwk hwj hj0 hj1 hNz hN1 hifx hifa h1X hX5 hjN
  obtain ⟨m, hm⟩ : ∃ m, m = x.m := ⟨_, rfl⟩
  obtain ⟨n, hn⟩ : ∃ n, n = x.n := ⟨_, rfl⟩
  obtain ⟨E, hE⟩ : ∃ E, Pl.setE R m n til = E := ⟨_, rfl⟩
  obtain ⟨R', hR'⟩ : ∃ R', Pl.setR R m n til = R' := ⟨_, rfl⟩
  have hok' : RtOk R' := by rw [← hR']; exact H0.out.2.2.2.2.1.setR m n til ⟨ht1, ht2⟩
  have hl' : R'.l.length ≤ R.l.length := by rw [← hR']; exact setR_len R m n til
  have hset := fun W (h : RtAt W R s p c) => set_any R s p c m n til W H0.out.2.2.2.2.1 h
  unfold SetOut at hset
  rw [hE, hR', rtV_L, ← H0.out.2.2.1] at hset
  have x0 := xb4.m
  have x1 := xb4.n
  rw [← hm] at x0
  rw [← hn] at x1
  have HH := Lib.hid (And.intro hset (And.intro hok' (And.intro hl' (And.intro hE (And.intro hR' (And.intro hm hn)))))); clear hset hok' hl' hE hR' hm hn
  have HB := Lib.hid (And.intro bx4 (And.intro hbw4 xb4)); clear bx4 hbw4 xb4
  go_upto_region 6 with (fail)
  go_wp2_with (with_reducible refine wpList_load_mid rfl 28 _ rfl w.heap.size 0 rfl L _ HB.out.1.range Try.underlying28 rfl HB.out.1.info ?_)
  refine (HH.out.1 W4 HB.out.1.rt).mono ?_
  rintro e w5 ⟨v, rfl, ⟨rv, rfl, ⟨s3, p3, c3, rfl, hrt3⟩⟩, hb3⟩
  have bx5 := HB.out.1.below hb3
  have hbw5 := HB.out.2.1.trans (hb3.mono HB.out.2.1.size)
  have xb5 := HB.out.2.2.below hb3
  obtain ⟨L3, hL3⟩ : ∃ L3, L3 = rtL R' s3 p3 c3 := ⟨_, rfl⟩
  rw [rtV_L, ← hL3]
  have hT3 := rt_there w5 hL3
  have hi3 := rtL_info hL3
  have ho3 := rtL_one hL3 hrt3
  have H3 := Lib.hid (And.intro bx5 (And.intro hbw5 (And.intro xb5 (And.intro hL3 hrt3)))); clear bx5 hbw5 xb5 hL3 hrt3 hb3 HB x0 x1
  go_upto_region 7 with (with_reducible refine wpList_store_mid rfl 28 _ _ rfl w5.heap.size 0 L3.toArray rfl rfl hT3 hi3 ho3 ?_)
  generalize hW6 : World.setCells _ _ _ _ = W6
  obtain ⟨by6, hb6⟩ := rbox_new H3.out.2.2.2.1 H3.out.2.2.2.2 hW6
  have bx6 := H3.out.1.below hb6
  have xb6 := H3.out.2.2.1.below hb6
  have hbw6 := H3.out.2.1.trans (hb6.mono H3.out.2.1.size)
  clear hW6 hb6 hT3 hi3 ho3 H3
  generalize w5.heap.size = B3 at by6 ⊢
  have y2 := by6.refs
  have x0 := xb6.m
  have x1 := xb6.n
  rw [← HH.out.2.2.2.2.2.1] at x0
  rw [← HH.out.2.2.2.2.2.2] at x1
  have nw := bx6.now
  have HB := Lib.hid (And.intro bx6 (And.intro hbw6 (And.intro xb6 by6))); clear bx6 hbw6 xb6 by6
  by_cases hE : E = 0
  rotate_left
  · have hne : (E != 0) = true := by rw [bne_iff_ne]; exact hE
    have hz : R' = Pl.Rt.zero := by rw [← HH.out.2.2.2.2.1]; exact setR_no (by rw [HH.out.2.2.2.1]; exact hE)
    obtain ⟨A3, k3, hs3, -, -⟩ := HB.out.2.2.2.rt.s
    rw [hs3, hz, show Pl.Rt.zero.l.length = 0 from rfl] at y2
    have HZ := Lib.hid hE; clear hE
    go_wp2_with fail
    go_ret
    exact ⟨_, rfl, rfl, HB.out.2.1⟩
  subst hE
  obtain ⟨he2, hr2⟩ := set_again HH.out.2.2.2.1
  have he3 := set_other HH.out.2.2.2.1 oth
  rw [HH.out.2.2.2.2.1] at he2 hr2 he3
  have hset2 := fun W (h : RtAt W R' s3 p3 c3) => set_any R' s3 p3 c3 m n til W HH.out.2.1 h
  have hset3 := fun W (h : RtAt W R' s3 p3 c3) => set_any R' s3 p3 c3 m n oth W HH.out.2.1 h
  obtain ⟨R2, hR2⟩ : ∃ R2, Pl.setR R' m n til = R2 := ⟨_, rfl⟩
  obtain ⟨R3, hR3⟩ : ∃ R3, Pl.setR R' m n oth = R3 := ⟨_, rfl⟩
  obtain ⟨E3, hE3⟩ : ∃ E3, Pl.setE R' m n oth = E3 := ⟨_, rfl⟩
  unfold SetOut at hset2 hset3
  rw [he2, hR2, rtV_L, ← HB.out.2.2.2.l] at hset2
  rw [hE3, hR3, rtV_L, ← HB.out.2.2.2.l] at hset3
  rw [hR2] at hr2
  rw [hE3] at he3
  have HS := Lib.hid (And.intro hset2 (And.intro hset3 (And.intro hr2 he3))); clear hset2 hset3 hr2 he3 he2 hR2 hR3 hE3
  go_upto_region 9 with (fail)
  clear y2 nw
  go_wp2_with (with_reducible refine wpList_load_mid rfl 28 _ rfl B3 0 rfl L3 _ HB.out.2.2.2.range Try.underlying28 rfl HB.out.2.2.2.info ?_)
  refine (HS.out.1 W6 HB.out.2.2.2.rt).mono ?_
  rintro e w7 ⟨v, rfl, ⟨rv, rfl, ⟨s5, p5, c5, rfl, hrt5⟩⟩, hb5⟩
  have bx7 := HB.out.1.below hb5
  have hbw7 := HB.out.2.1.trans (hb5.mono HB.out.2.1.size)
  have xb7 := HB.out.2.2.1.below hb5
  have by7 := HB.out.2.2.2.below hb5
  obtain ⟨L5, hL5⟩ : ∃ L5, L5 = rtL R2 s5 p5 c5 := ⟨_, rfl⟩
  rw [rtV_L, ← hL5]
  have hT5 := rt_there w7 hL5
  have hi5 := rtL_info hL5
  have ho5 := rtL_one hL5 hrt5
  have H5 := Lib.hid (And.intro bx7 (And.intro hbw7 (And.intro xb7 (And.intro by7 (And.intro hL5 hrt5))))); clear bx7 hbw7 xb7 by7 hL5 hrt5 hb5 HB x0 x1
  go_upto_region 10 with (with_reducible refine wpList_store_mid rfl 28 _ _ rfl w7.heap.size 0 L5.toArray rfl rfl hT5 hi5 ho5 ?_)
  generalize hW8 : World.setCells _ _ _ _ = W8
  obtain ⟨bz8, hb8⟩ := rbox_new H5.out.2.2.2.2.1 H5.out.2.2.2.2.2 hW8
  have bx8 := H5.out.1.below hb8
  have by8 := H5.out.2.2.2.1.below hb8
  have xb8 := H5.out.2.2.1.below hb8
  have hbw8 := H5.out.2.1.trans (hb8.mono H5.out.2.1.size)
  clear hW8 hb8 hT5 hi5 ho5 H5
  generalize w7.heap.size = B5 at bz8 ⊢
  have x0 := xb8.m
  have x1 := xb8.n
  rw [← HH.out.2.2.2.2.2.1] at x0
  rw [← HH.out.2.2.2.2.2.2] at x1
  have HB := Lib.hid (And.intro bx8 (And.intro hbw8 (And.intro by8 bz8))); clear bx8 hbw8 xb8 by8 bz8
  go_wp2_with (with_reducible refine wpList_load_mid rfl 28 _ rfl B3 0 rfl L3 _ HB.out.2.2.1.range Try.underlying28 rfl HB.out.2.2.1.info ?_)
  refine (HS.out.2.1 W8 HB.out.2.2.1.rt).mono ?_
  rintro e w9 ⟨v, rfl, ⟨rv, rfl, ⟨s6, p6, c6, rfl, hrt6⟩⟩, hb6⟩
  have bx9 := HB.out.1.below hb6
  have hbw9 := HB.out.2.1.trans (hb6.mono HB.out.2.1.size)
  have by9 := HB.out.2.2.1.below hb6
  have bz9 := HB.out.2.2.2.below hb6
  obtain ⟨L6, hL6⟩ : ∃ L6, L6 = rtL R3 s6 p6 c6 := ⟨_, rfl⟩
  rw [rtV_L, ← hL6]
  have hT6 := rt_there w9 hL6
  have hi6 := rtL_info hL6
  have ho6 := rtL_one hL6 hrt6
  have H6 := Lib.hid (And.intro bx9 (And.intro hbw9 (And.intro by9 (And.intro bz9 (And.intro hL6 hrt6))))); clear bx9 hbw9 by9 bz9 hL6 hrt6 hb6 HB x0 x1
  go_upto_region 11 with (with_reducible refine wpList_store_mid rfl 28 _ _ rfl w9.heap.size 0 L6.toArray rfl rfl hT6 hi6 ho6 ?_)
  generalize hWa : World.setCells _ _ _ _ = Wa
  obtain ⟨bva, hba⟩ := rbox_new H6.out.2.2.2.2.1 H6.out.2.2.2.2.2 hWa
  have bxa := H6.out.1.below hba
  have bya := H6.out.2.2.1.below hba
  have bza := H6.out.2.2.2.1.below hba
  have hbwa := H6.out.2.1.trans (hba.mono H6.out.2.1.size)
  clear hWa hba hT6 hi6 ho6 H6 bva
  have nw := bxa.now
  have y2 := bya.refs
  have z2 := bza.refs
  have hl6 : R'.l.length ≤ 1000000 := by have := HH.out.2.2.1; omega
  have hrs := rrefs_same s3 s5 R'.l Wa hl6 bya.rt.s (by rw [← HS.out.2.2.1]; exact bza.rt.s)
  have HB := Lib.hid (And.intro hrs hbwa); clear bxa bya bza hbwa hrs
  obtain ⟨nn, hnn⟩ : ∃ nn, nn = R.now := ⟨_, rfl⟩
  rw [← hnn] at nw
  have he3 := HS.out.2.2.2
  rw [← hnn] at he3
  have HN := Lib.hid hnn; clear hnn
  by_cases q1 : oth ≤ nn
  · rw [if_pos q1] at he3
    subst he3
    go_wp2_with fail
    refine HB.out.1.mono ?_
    rintro e wb ⟨v, rfl, rfl, hbb⟩
    go_wp2_with fail
    go_ret
    exact ⟨_, rfl, rfl, HB.out.2.trans (hbb.mono HB.out.2.size)⟩
  · rw [if_neg q1] at he3
    by_cases q2 : oth < til
    · rw [if_pos q2] at he3
      subst he3
      go_wp2_with fail
      refine HB.out.1.mono ?_
      rintro e wb ⟨v, rfl, rfl, hbb⟩
      go_wp2_with fail
      go_ret
      exact ⟨_, rfl, rfl, HB.out.2.trans (hbb.mono HB.out.2.size)⟩
    · rw [if_neg q2] at he3
      subst he3
      go_wp2_with fail
      refine HB.out.1.mono ?_
      rintro e wb ⟨v, rfl, rfl, hbb⟩
      go_wp2_with fail
      go_ret
      exact ⟨_, rfl, rfl, HB.out.2.trans (hbb.mono HB.out.2.size)⟩
-- FRAME
set_option maxRecDepth 100000 in
theorem holdLater_lifted (os : Os) (started : os.Started) (H : Type) (enc : TypeId × Value → H) :
    ReturnsInHanded {} Try.checked os 4 .any (Rows.holdLaterSpec.pre6 enc Try.prog Try.f4 Rows.holdLaterRow.domain false) (Rows.holdLaterSpec.post enc Try.prog Try.f4 false true false false) := by
  refine returnsInHanded_of_change_sized (C := Try.checked) own started (by kernel_rfl) Try.func4
    (ChangeSpec.witness6 (enc := enc) (C := Try.checked) false ⟨#[], #[.agg #[.int .i64 0, .int .i64 0, .slice none 0 0, .slice none 0 0, .int .i64 0, .int .i64 0, .int .i64 0, .int .i64 0, .slice none 0 0], .int .u8 0, .int .i64 0, .int .i64 0], []⟩ 8 (by kernel_rfl) (by kernel_rfl) (by kernel_rfl) (by kernel_rfl)) ?_
  intro W base args ds gs before hval0 hW hcnd hsz0 _
  have hval : ∀ (j : Nat) t v, Try.f4.params[j]? = some t → args[j]? = some v → Value.okWide Try.prog W .any base t v := hval0
  have hW' := hW
  obtain ⟨p, q, hA0, hV, rfl, hfz, hnd⟩ := hW
  have hA : DataW.TrodAll enc Try.prog W 0 (fun _ => true) true Try.f4.params.toList args.toList ds p := hA0
  have hsz : (DataW.weightsEach Try.prog (Try.f4.params.toList ++ Rows.holdLaterSpec.plain.varTypes Try.prog) (ds ++ gs)).all (· ≤ reachBytes) = true := hsz0
  rw [Try.params4] at hA hval hsz
  obtain ⟨v0, vs0, d0, ds0, p0, q0, hargs, rfl, rfl, h0, r0⟩ := trodAll_cons hA
  obtain ⟨v1, vs1, d1, ds1, p1, q1, rfl, rfl, rfl, h1, r1⟩ := trodAll_cons r0
  obtain ⟨v2, vs2, d2, ds2, p2, q2, rfl, rfl, rfl, h2, r2⟩ := trodAll_cons r1
  obtain ⟨v3, vs3, d3, ds3, p3, q3, rfl, rfl, rfl, h3, r3⟩ := trodAll_cons r2
  obtain ⟨rfl, rfl, rfl⟩ := trodAll_nil r3
  obtain rfl : args = #[v0, v1, v2, v3] := by cases args; simp_all
  obtain ⟨rfl, rfl⟩ := trodVars_none hV
  have k0 := h0
  have lt0 : ∀ x ∈ p0, x.block < W.heap.size := by obtain ⟨m, hm⟩ := k0; exact DataW.trod_lt m _ _ _ hm
  have hz0 : ∀ m ∈ d0.weights Try.prog 28, m ≤ reachBytes := fun m hm => by
    have h1 := List.all_eq_true.1 hsz m (DataW.weights_mem_each (j := 0) rfl rfl m hm)
    simpa using h1
  obtain ⟨R0, s0, p0, c0, rfl, eA0, eB0, eC0⟩ := open_root (hval 0 28 v0 rfl rfl) h0 hz0
  have k1 := h1
  have lt1 : ∀ x ∈ p1, x.block < W.heap.size := by obtain ⟨m, hm⟩ := k1; exact DataW.trod_lt m _ _ _ hm
  have hz1 : ∀ m ∈ d1.weights Try.prog 5, m ≤ reachBytes := fun m hm => by
    have h1 := List.all_eq_true.1 hsz m (DataW.weights_mem_each (j := 1) rfl rfl m hm)
    simpa using h1
  obtain ⟨x1, rfl, eA1⟩ := open_u8 (hval 1 5 v1 rfl rfl) h1 hz1
  have k2 := h2
  have lt2 : ∀ x ∈ p2, x.block < W.heap.size := by obtain ⟨m, hm⟩ := k2; exact DataW.trod_lt m _ _ _ hm
  have hz2 : ∀ m ∈ d2.weights Try.prog 2, m ≤ reachBytes := fun m hm => by
    have h1 := List.all_eq_true.1 hsz m (DataW.weights_mem_each (j := 2) rfl rfl m hm)
    simpa using h1
  obtain ⟨x2, rfl, eA2, eB2⟩ := open_l64 (hval 2 2 v2 rfl rfl) h2 hz2
  have k3 := h3
  have lt3 : ∀ x ∈ p3, x.block < W.heap.size := by obtain ⟨m, hm⟩ := k3; exact DataW.trod_lt m _ _ _ hm
  have hz3 : ∀ m ∈ d3.weights Try.prog 2, m ≤ reachBytes := fun m hm => by
    have h1 := List.all_eq_true.1 hsz m (DataW.weights_mem_each (j := 3) rfl rfl m hm)
    simpa using h1
  obtain ⟨x3, rfl, eA3, eB3⟩ := open_l64 (hval 3 2 v3 rfl rfl) h3 hz3
  clear hA0 hval0 hsz0
  refine (holdLater_walk R0 s0 p0 c0 x1 x2 x3 W eA0 eB0 eC0 eA1 eA2 eB2 eA3 eB3).mono fun e W' ⟨v, he, hv, bel⟩ => ?_
  subst he hv
  exact ⟨_, rfl, _, _, _, [], _, [], hW', trodAll_mk1 (shut_bool Try.underlying4 _), (trodAll_cons_mk (Below.trod laidOut (by kernel_rfl) (of_decide_eq_true (by kernel_rfl)) k0 bel lt0) (trodAll_cons_mk (Below.trod laidOut (by kernel_rfl) (of_decide_eq_true (by kernel_rfl)) k1 bel lt1) (trodAll_cons_mk (Below.trod laidOut (by kernel_rfl) (of_decide_eq_true (by kernel_rfl)) k2 bel lt2) (trodAll_cons_mk (Below.trod laidOut (by kernel_rfl) (of_decide_eq_true (by kernel_rfl)) k3 bel lt3) trodAll_mk0)))), rfl, bel.frame _, fun h => by cases h⟩

theorem holdLater_holds : Rows.HoldLaterSaid :=
  OpenClaim.holds_of_wide 4 Try.f4 rfl rfl rfl rfl rfl rfl rfl ⟨rfl, rfl, rfl, rfl, rfl⟩ rfl rfl rfl rfl rfl (by kernel_rfl) Try.func4 (by kernel_rfl)
    (of_decide_eq_true (by kernel_rfl)) (by unfold Func.isWrapper; first | (rw [if_pos (by decide +kernel)]; kernel_rfl) | (rw [if_neg (by decide +kernel)]; exact ⟨rfl, rfl⟩))
    (fun os started H enc _ => holdLater_lifted os started H enc)
#print axioms holdLater_holds
end Go.Proofs.Yteamkiblogbfmaa
