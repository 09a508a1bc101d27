/- HoldGrows holds: of holds that are set one after another, each one that is held at the end stays; none is ever shortened. No condition. -/
import Derived.Test.YteamkiblogbfmaaOpenSt
import Derived.Test.YteamkiblogbfmaaHoldGr
import Derived.Test.YteamkiblogbfmaaHoldStays
import Derived.Lib.SmallJoins
import Derived.Lib.EndianMore
namespace Go.Proofs.Yteamkiblogbfmaa
open Go.ChangeShapes Go.WideShapes Go.ChangeAt Go.RowKit
set_option linter.unusedVariables false
set_option linter.unusedSimpArgs false
structure HeldH (Bx : Nat) (Lx : List Value) (b o N k : Nat) (j : Nat) (m : List UInt8) (q : Int) (bs os : Nat) (zt : Int) (W : World) : Prop where
  r : W.rangeAt Bx 0 Lx
  x2 : W.cell? ⟨Bx, 2, none⟩ = some (.slice (some ⟨b, o, none⟩) N k)
  m : W.cell? ⟨b, o + j * 5, none⟩ = some (.string ⟨m.toArray⟩)
  n : W.cell? ⟨b, o + j * 5 + 1, none⟩ = some (.int .i64 q)
  t : W.cell? ⟨bs, os, none⟩ = some (.int .i64 zt)
theorem cell_lo {W W' : World} {a : Addr} {v : Value} (h : W.cell? a = some v) (hb : Below W.heap.size W W') : W'.cell? a = some v :=
  (hb.cell (World.block_lt_of_cell? W a h)).trans h
theorem HeldH.below {Bx : Nat} {Lx : List Value} {b o N k : Nat} {j : Nat} {m : List UInt8} {q : Int} {bs os : Nat} {zt : Int} {W W' : World} (h : HeldH Bx Lx b o N k j m q bs os zt W) (hb : Below W.heap.size W W') : HeldH Bx Lx b o N k j m q bs os zt W' :=
  ⟨fun q v hq => cell_lo (h.r q v hq) hb, cell_lo h.x2 hb, cell_lo h.m hb, cell_lo h.n hb, cell_lo h.t hb⟩
set_option maxRecDepth 100000 in
set_option maxHeartbeats 16000000 in
theorem holdGrows_walk (R : Pl.Rt) (s p c : Value) (A1 : Option Addr) (n c1 : Nat) (l : List (Int × Int)) (lat : Nat) (w : World) (hrt : RtAt w R s p c) (hok : RtOk R) (hfit : ∀ x ∈ R.l, x.m.length ≤ 140737488355328 ∧ x.nm.length ≤ 140737488355328) (hl : l.length = n) (hst : Rd w 2 A1 n (stCs l)) (hI : ∀ x ∈ l, I64 x.1 ∧ I64 x.2) (hlat : lat < 65536) :
    Calls Try.prog 8 #[rtV R s p c, .slice A1 n c1, .int .u16 lat] w (RetB (fun v _ => v = .bool true) w) := by
  have hgreat := fun W (h : RtAt W R s p c) => great50_any s R.l W (by have := hok.l; omega) h.s hfit
  obtain ⟨G, hG⟩ : ∃ G, Pl.great50 R.l = G := ⟨_, rfl⟩
  rw [hG] at hgreat
  obtain ⟨A, k0, hsA, hrd, -⟩ := hrt.s
  obtain ⟨N, hN⟩ : ∃ N, N = R.l.length := ⟨_, rfl⟩
  rw [← hN] at hsA hrd
  obtain ⟨L, hL⟩ : ∃ L, L = rtL R s p c := ⟨_, rfl⟩
  obtain ⟨nn, hnn⟩ : ∃ nn, nn = R.now := ⟨_, rfl⟩
  rw [rtV_L, ← hL]
  have H0 := Lib.hid (And.intro hgreat (And.intro hG (And.intro hL (And.intro hrt (And.intro hok (And.intro hN (And.intro hrd hsA)))))))
  have HS := Lib.hid (And.intro hl (And.intro hst (And.intro hI hnn)))
  clear hgreat hG hL hrt hok hfit hN hrd hsA hl hst hI hnn
  go_enter Try.func8, Try.ntmps8
  go_upto_region 1 with (fail)
  generalize hV : World.alloc w _ = V
  obtain ⟨bx, hbV⟩ := rbox_arg H0.out.2.2.1 H0.out.2.2.2.1 hV
  clear hV
  go_wp2_with fail
  refine (alive_any V).mono ?_
  rintro e w1 ⟨v, rfl, rfl, hb1⟩
  have bx1 := bx.below hb1
  have hbw := hbV.trans (hb1.mono hbV.size)
  clear bx hb1 hbV
  have x2 := bx1.refs
  have y1 := bx1.now
  rw [← HS.out.2.2.2] at y1
  have HB := Lib.hid (And.intro bx1 hbw); clear bx1 hbw
  go_wp2_with fail
  refine (H0.out.1 w1 HB.out.1.rt).mono ?_
  rintro e w2 ⟨rfl, rfl⟩
  rw [H0.out.2.2.2.2.2.2.2] at x2
  cases G
  rotate_left
  · go_wp2_with fail
    go_ret
    exact ⟨_, rfl, rfl, HB.out.2⟩
  by_cases hN0 : N = 0
  · subst hN0
    go_wp2_with fail
    go_ret
    exact ⟨_, rfl, rfl, HB.out.2⟩
  have hN1 : ((N : Int) == 0) = false := by rw [beq_eq_false_iff_ne]; omega
  by_cases hn20 : (20 : Int) < (n : Int)
  · go_wp2_with fail
    go_ret
    exact ⟨_, rfl, rfl, HB.out.2⟩
  by_cases ht1 : (1099511627776 : Int) < nn
  · go_wp2_with fail
    go_ret
    exact ⟨_, rfl, rfl, HB.out.2⟩
  by_cases ht2 : nn < (-1099511627776 : Int)
  · go_wp2_with fail
    go_ret
    exact ⟨_, rfl, rfl, HB.out.2⟩
  have hl60 := Pl.great50_few H0.out.2.1
  rw [← H0.out.2.2.2.2.2.1] at hl60
  have hn20' : n ≤ 20 := by omega
  have hT1 := rt_there w1 H0.out.2.2.1
  have hi1 := rtL_info H0.out.2.2.1
  have ho1 := rtL_one H0.out.2.2.1 H0.out.2.2.2.1
  go_upto_region 6 with (first | (with_reducible refine wpList_load_mid rfl 28 _ rfl w.heap.size 0 rfl L _ HB.out.1.range Try.underlying28 rfl HB.out.1.info ?_) | (with_reducible refine wpList_store_mid rfl 28 _ _ rfl w1.heap.size 0 L.toArray rfl rfl hT1 hi1 ho1 ?_))
  generalize hW2 : World.setCells _ _ _ _ = W2
  obtain ⟨bx2, hb2⟩ := rbox_new H0.out.2.2.1 HB.out.1.rt hW2
  have hG0 : GX w w1.heap.size R s p c L R s p c L W2 := ⟨bx2, .inl H0.out.2.2.2.1, HB.out.2.trans (hb2.mono HB.out.2.size), HB.out.1.lt, HB.out.1.below hb2, H0.out.2.2.2.1, H0.out.2.2.2.2.1, rfl, rfl⟩
  clear hW2 hb2 bx2 hT1 hi1 ho1 HB x2 y1
  have HT := Lib.hid (And.intro ht1 ht2); clear ht1 ht2
  generalize w1.heap.size = Bx at hG0 ⊢
  go_wp2_with fail
  go_loopw [8] (fun a wr => ∃ (i : Nat) (X : Pl.Rt) (s' p' c' : Value) (Lx : List Value), i ≤ n ∧ a = .int .i64 i ∧ GX w Bx R s p c L X s' p' c' Lx wr) (fun a _ => n - (intOf a).toNat)
  case atStart => exact ⟨0, R, s, p, c, L, by omega, rfl, hG0⟩
  case round =>
    clear hG0
    obtain ⟨i, X, s', p', c', Lx, hi, rfl, hG⟩ := hrel
    by_cases hin : i < n
    · obtain ⟨bs, os, rfl, hbs, hcs⟩ := (HS.out.2.1.below hG.hb).st HS.out.1 hin
      obtain ⟨z, hz⟩ : ∃ z, l.getD i default = z := ⟨_, rfl⟩
      obtain ⟨a0, a1⟩ := hcs z hz
      have hzm : z ∈ l := by
        have hil : i < l.length := by rw [HS.out.1]; exact hin
        rw [← hz, List.getD_eq_getElem?_getD, List.getElem?_eq_getElem hil]
        exact List.getElem_mem hil
      obtain ⟨hz1, hz2⟩ := HS.out.2.2.1 z hzm
      clear hcs hz hzm
      obtain ⟨za, zt⟩ := z
      simp only at a0 a1 hz1 hz2
      have x2 := hG.r.refs
      rw [H0.out.2.2.2.2.2.2.2] at x2
      have hu : 0 ≤ IntKind.u64.wrap za := by rw [IntKind.wrap_u64]; omega
      obtain ⟨u, hu'⟩ : ∃ u, u = IntKind.u64.wrap za := ⟨_, rfl⟩
      rw [← hu'] at hu
      obtain ⟨j, hj⟩ : ∃ j : Nat, (j : Int) = u % (N : Int) := ⟨(u % (N : Int)).toNat, by rw [Int.toNat_of_nonneg]; exact Int.emod_nonneg _ (by omega)⟩
      have hjN : j < N := by
        have := Int.emod_lt_of_pos u (show (0 : Int) < (N : Int) by omega)
        omega
      have hjt : (IntKind.u64.wrap za).tmod (N : Int) = (j : Int) := by rw [← hu', hj]; exact Int.tmod_eq_emod_of_nonneg hu
      have hwj : IntKind.i64.wrap (j : Int) = (j : Int) := IntWalk.i64_in _ (by omega)
      clear hu hu' hj u
      have i0 : (0 : Int) ≤ (i : Int) := by omega
      have i1 : (i : Int) < (n : Int) := by omega
      have hw2 : IntKind.u64.wrap (N : Int) = (N : Int) := IntWalk.u64_in _ (by omega)
      have hNz : ¬ (N : Int) = 0 := by omega
      have HI := Lib.hid (And.intro hG (And.intro hz1 hz2)); clear hG hz1 hz2
      go_wp2_with fail
      go_quiet (fail)
      clear x2 a0 hjt hwj hw2 hNz hbs
      have hG := HI.out.1.drewN nq
      have a1 : (wr.drewN nq).cell? ⟨bs, os + i * 2 + 1, none⟩ = some (.int .i64 zt) := a1
      generalize World.drewN wr nq = V at hG a1 ⊢
      have hlenX : X.l.length = N := hG.len.trans H0.out.2.2.2.2.2.1.symm
      obtain ⟨Ax, kx, hs', hrdx, -⟩ := hG.x.rt.s
      rw [hlenX] at hs' hrdx
      subst hs'
      obtain ⟨b, o, rfl, hbo, hrfx⟩ := hrdx.rf hlenX hjN
      obtain ⟨x, hx⟩ : ∃ x, X.l.getD j default = x := ⟨_, rfl⟩
      obtain ⟨f0, f1, -, -, -⟩ := hrfx x hx
      obtain ⟨m, hm⟩ : ∃ m, m = x.m := ⟨_, rfl⟩
      obtain ⟨q, hq⟩ : ∃ q, q = x.n := ⟨_, rfl⟩
      rw [← hm] at f0
      rw [← hq] at f1
      have j0 : (0 : Int) ≤ (j : Int) := by omega
      have j1 : (j : Int) < (N : Int) := by omega
      have hset := fun W (h : RtAt W X (.slice (some ⟨b, o, none⟩) N kx) p' c') => set_own X (.slice (some ⟨b, o, none⟩) N kx) p' c' m q zt W hG.ok h
      obtain ⟨E, hE⟩ : ∃ E, Pl.setE X m q zt = E := ⟨_, rfl⟩
      obtain ⟨Y, hY⟩ : ∃ Y, Pl.setR X m q zt = Y := ⟨_, rfl⟩
      have hokY : RtOk Y := by rw [← hY]; exact hG.ok.setR m q zt HI.out.2.2
      unfold SetOwn RtOwn at hset
      rw [hE, hY, rtV_L, ← hG.x.l] at hset
      have hH : HeldH Bx Lx b o N kx j m q bs (os + i * 2 + 1) zt V := ⟨hG.x.range, hG.x.refs, f0, f1, a1⟩
      have hif := hG.x.info
      have HX := Lib.hid (And.intro hset (And.intro hE (And.intro hY (And.intro hokY hlenX))))
      clear hset hE hY hokY hm hq hx hrfx hrdx f0 f1 a1 HI hlenX
      go_upto_region 10 with (fail)
      refine wp_region_held_drew (S := (fun w' => HeldH Bx Lx b o N kx j m q bs (os + i * 2 + 1) zt w')) (by kernel_rfl) (by exact hH.below (Below.refl _ _).drew) (fun hHeld => ?_)
      refine wpAnyH_take (i := 0) (v := .agg (Lx).toArray) rfl (by kernel_rfl) (by kernel_rfl) (by kernel_rfl) (fun _ _ _ h => h) (yieldsIf_load_mid (by kernel_rfl) 28 _ rfl (Bx) (0) rfl Lx _ (fun _ h => h.r) Try.underlying28 rfl hif) hHeld ?_
      simp only [Act.put, List.setIfInBounds_toArray, List.set_cons_zero, List.set_cons_succ, List.getElem_toArray, List.getElem_cons_succ, List.getElem_cons_zero]
      refine wpAnyH_take (i := 1) (v := ?_) rfl (by kernel_rfl) (by kernel_rfl) (by kernel_rfl) (fun _ _ _ h => h) (Or.inl ⟨by kernel_rfl, ?_⟩) hHeld ?_
      rotate_left
      · (intro w' hSw; obtain ⟨hS0, hS1, hS2, hS3, hS4⟩ := hSw; go_simp; try with_reducible rfl)
      simp only [Act.put, List.setIfInBounds_toArray, List.set_cons_zero, List.set_cons_succ, List.getElem_toArray, List.getElem_cons_succ, List.getElem_cons_zero]
      refine wpAnyH_take (i := 2) (v := ?_) rfl (by kernel_rfl) (by kernel_rfl) (by kernel_rfl) (fun _ _ _ h => h) (Or.inl ⟨by kernel_rfl, ?_⟩) hHeld ?_
      rotate_left
      · (intro w' hSw; obtain ⟨hS0, hS1, hS2, hS3, hS4⟩ := hSw; go_simp; try with_reducible rfl)
      simp only [Act.put, List.setIfInBounds_toArray, List.set_cons_zero, List.set_cons_succ, List.getElem_toArray, List.getElem_cons_succ, List.getElem_cons_zero]
      refine wpAnyH_take (i := 3) (v := ?_) rfl (by kernel_rfl) (by kernel_rfl) (by kernel_rfl) (fun _ _ _ h => h) (Or.inl ⟨by kernel_rfl, ?_⟩) hHeld ?_
      rotate_left
      · (intro w' hSw; obtain ⟨hS0, hS1, hS2, hS3, hS4⟩ := hSw; go_simp; try with_reducible rfl)
      simp only [Act.put, List.setIfInBounds_toArray, List.set_cons_zero, List.set_cons_succ, List.getElem_toArray, List.getElem_cons_succ, List.getElem_cons_zero]
      refine wpAnyH_take (i := 4) (v := ?_) rfl (by kernel_rfl) (by kernel_rfl) (by kernel_rfl) (fun _ _ _ h => h) (Or.inl ⟨by kernel_rfl, ?_⟩) hHeld ?_
      rotate_left
      · (intro w' hSw; obtain ⟨hS0, hS1, hS2, hS3, hS4⟩ := hSw; go_simp; try with_reducible rfl)
      simp only [Act.put, List.setIfInBounds_toArray, List.set_cons_zero, List.set_cons_succ, List.getElem_toArray, List.getElem_cons_succ, List.getElem_cons_zero]
      refine wpAnyH_take (i := 5) (v := ?_) rfl (by kernel_rfl) (by kernel_rfl) (by kernel_rfl) (fun _ _ _ h => h) (Or.inl ⟨by kernel_rfl, ?_⟩) hHeld ?_
      rotate_left
      · (intro w' hSw; obtain ⟨hS0, hS1, hS2, hS3, hS4⟩ := hSw; go_simp; try with_reducible rfl)
      simp only [Act.put, List.setIfInBounds_toArray, List.set_cons_zero, List.set_cons_succ, List.getElem_toArray, List.getElem_cons_succ, List.getElem_cons_zero]
      refine wpAnyH_take (i := 6) (v := ?_) rfl (by kernel_rfl) (by kernel_rfl) (by kernel_rfl) (fun _ _ _ h => h) (Or.inl ⟨by kernel_rfl, ?_⟩) hHeld ?_
      rotate_left
      · (intro w' hSw; obtain ⟨hS0, hS1, hS2, hS3, hS4⟩ := hSw; go_simp; try with_reducible rfl)
      simp only [Act.put, List.setIfInBounds_toArray, List.set_cons_zero, List.set_cons_succ, List.getElem_toArray, List.getElem_cons_succ, List.getElem_cons_zero]
      refine wpAnyH_take (i := 7) (v := ?_) rfl (by kernel_rfl) (by kernel_rfl) (by kernel_rfl) (fun _ _ _ h => h) (Or.inl ⟨by kernel_rfl, ?_⟩) hHeld ?_
      rotate_left
      · (intro w' hSw; obtain ⟨hS0, hS1, hS2, hS3, hS4⟩ := hSw; go_simp; try with_reducible rfl)
      simp only [Act.put, List.setIfInBounds_toArray, List.set_cons_zero, List.set_cons_succ, List.getElem_toArray, List.getElem_cons_succ, List.getElem_cons_zero]
      refine wpAnyH_take (i := 8) (v := ?_) rfl (by kernel_rfl) (by kernel_rfl) (by kernel_rfl) (fun _ _ _ h => h) (Or.inl ⟨by kernel_rfl, ?_⟩) hHeld ?_
      rotate_left
      · (intro w' hSw; obtain ⟨hS0, hS1, hS2, hS3, hS4⟩ := hSw; go_simp; try with_reducible rfl)
      simp only [Act.put, List.setIfInBounds_toArray, List.set_cons_zero, List.set_cons_succ, List.getElem_toArray, List.getElem_cons_succ, List.getElem_cons_zero]
      refine wpAnyH_take (i := 9) (v := ?_) rfl (by kernel_rfl) (by kernel_rfl) (by kernel_rfl) (fun _ _ _ h => h) (Or.inl ⟨by kernel_rfl, ?_⟩) hHeld ?_
      rotate_left
      · (intro w' hSw; obtain ⟨hS0, hS1, hS2, hS3, hS4⟩ := hSw; go_simp; try with_reducible rfl)
      simp only [Act.put, List.setIfInBounds_toArray, List.set_cons_zero, List.set_cons_succ, List.getElem_toArray, List.getElem_cons_succ, List.getElem_cons_zero]
      refine wpAnyH_take (i := 10) (v := ?_) rfl (by kernel_rfl) (by kernel_rfl) (by kernel_rfl) (fun _ _ _ h => h) (Or.inl ⟨by kernel_rfl, ?_⟩) hHeld ?_
      rotate_left
      · (intro w' hSw; obtain ⟨hS0, hS1, hS2, hS3, hS4⟩ := hSw; go_simp; try with_reducible rfl)
      simp only [Act.put, List.setIfInBounds_toArray, List.set_cons_zero, List.set_cons_succ, List.getElem_toArray, List.getElem_cons_succ, List.getElem_cons_zero]
      refine wpAnyH_take (i := 11) (v := ?_) rfl (by kernel_rfl) (by kernel_rfl) (by kernel_rfl) (fun _ _ _ h => h) (Or.inl ⟨by kernel_rfl, ?_⟩) hHeld ?_
      rotate_left
      · (intro w' hSw; obtain ⟨hS0, hS1, hS2, hS3, hS4⟩ := hSw; go_simp; try with_reducible rfl)
      simp only [Act.put, List.setIfInBounds_toArray, List.set_cons_zero, List.set_cons_succ, List.getElem_toArray, List.getElem_cons_succ, List.getElem_cons_zero]
      refine wpAnyH_take (i := 12) (v := ?_) rfl (by kernel_rfl) (by kernel_rfl) (by kernel_rfl) (fun _ _ _ h => h) (Or.inl ⟨by kernel_rfl, ?_⟩) hHeld ?_
      rotate_left
      · (intro w' hSw; obtain ⟨hS0, hS1, hS2, hS3, hS4⟩ := hSw; go_simp; try with_reducible rfl)
      simp only [Act.put, List.setIfInBounds_toArray, List.set_cons_zero, List.set_cons_succ, List.getElem_toArray, List.getElem_cons_succ, List.getElem_cons_zero]
      refine wpAnyH_take (i := 13) (v := ?_) rfl (by kernel_rfl) (by kernel_rfl) (by kernel_rfl) (fun _ _ _ h => h) (Or.inl ⟨by kernel_rfl, ?_⟩) hHeld ?_
      rotate_left
      · (intro w' hSw; obtain ⟨hS0, hS1, hS2, hS3, hS4⟩ := hSw; go_simp; try with_reducible rfl)
      simp only [Act.put, List.setIfInBounds_toArray, List.set_cons_zero, List.set_cons_succ, List.getElem_toArray, List.getElem_cons_succ, List.getElem_cons_zero]
      refine wpAnyH_take (i := 14) (v := ?_) rfl (by kernel_rfl) (by kernel_rfl) (by kernel_rfl) (fun _ _ _ h => h) (Or.inl ⟨by kernel_rfl, ?_⟩) hHeld ?_
      rotate_left
      · (intro w' hSw; obtain ⟨hS0, hS1, hS2, hS3, hS4⟩ := hSw; go_simp; try with_reducible rfl)
      simp only [Act.put, List.setIfInBounds_toArray, List.set_cons_zero, List.set_cons_succ, List.getElem_toArray, List.getElem_cons_succ, List.getElem_cons_zero]
      refine wpAnyH_take (i := 15) (v := ?_) rfl (by kernel_rfl) (by kernel_rfl) (by kernel_rfl) (fun _ _ _ h => h) (Or.inl ⟨by kernel_rfl, ?_⟩) hHeld ?_
      rotate_left
      · (intro w' hSw; obtain ⟨hS0, hS1, hS2, hS3, hS4⟩ := hSw; go_simp; try with_reducible rfl)
      simp only [Act.put, List.setIfInBounds_toArray, List.set_cons_zero, List.set_cons_succ, List.getElem_toArray, List.getElem_cons_succ, List.getElem_cons_zero]
      refine wpAnyH_take (i := 16) (v := ?_) rfl (by kernel_rfl) (by kernel_rfl) (by kernel_rfl) (fun _ _ _ h => h) (Or.inl ⟨by kernel_rfl, ?_⟩) hHeld ?_
      rotate_left
      · (intro w' hSw; obtain ⟨hS0, hS1, hS2, hS3, hS4⟩ := hSw; go_simp; try with_reducible rfl)
      simp only [Act.put, List.setIfInBounds_toArray, List.set_cons_zero, List.set_cons_succ, List.getElem_toArray, List.getElem_cons_succ, List.getElem_cons_zero]
      refine wpAnyH_take (i := 17) (v := ?_) rfl (by kernel_rfl) (by kernel_rfl) (by kernel_rfl) (fun _ _ _ h => h) (Or.inl ⟨by kernel_rfl, ?_⟩) hHeld ?_
      rotate_left
      · (intro w' hSw; obtain ⟨hS0, hS1, hS2, hS3, hS4⟩ := hSw; go_simp; try with_reducible rfl)
      simp only [Act.put, List.setIfInBounds_toArray, List.set_cons_zero, List.set_cons_succ, List.getElem_toArray, List.getElem_cons_succ, List.getElem_cons_zero]
      replace hG := hG.below (Below.refl _ _).drew
      generalize V.drew = V0 at hHeld hG ⊢
      have hG := Lib.hid hG
      clear hH hif hbo
      refine wpAnyH_ready (rs := [18, 22]) (by kernel_rfl) (by simp) (AllReadyH.cons rfl (fun K hK => ?_) (AllReadyH.cons rfl (fun K hK => ?_) AllReadyH.nil))
      · go_simp
        refine (HX.out.1 V0 hG.out.x.rt).mono ?_
        rintro e V1 ⟨v, rfl, ⟨rv, rfl, ⟨sy, py, cy, sv, rfl, hcp⟩⟩, hb⟩
        obtain ⟨Ly, hLy⟩ : ∃ Ly, Ly = rtL Y sy py cy := ⟨_, rfl⟩
        rw [rtV_L, ← hLy]
        have hT := rt_there V1 hLy
        have hi' := rtL_info hLy
        have ho' := rtL_one hLy hcp.rt
        have HY := Lib.hid (And.intro hLy (And.intro hcp hb)); clear hLy hcp hb
        have hHeld1 := hHeld
        clear hHeld
        refine hK.out _ _ (by exact hHeld1.below HY.out.2.2) (fun hHeld => ?_)
        clear hK K
        (try simp only [Act.put, List.setIfInBounds_toArray, List.set_cons_zero, List.set_cons_succ, List.getElem_toArray, List.getElem_cons_succ, List.getElem_cons_zero])
        refine wpAnyH_take (i := 19) (v := ?_) rfl (by kernel_rfl) (by kernel_rfl) (by kernel_rfl) (fun _ _ _ h => h) (Or.inl ⟨by kernel_rfl, ?_⟩) hHeld ?_
        rotate_left
        · (intro w' hSw; obtain ⟨hS0, hS1, hS2, hS3, hS4⟩ := hSw; go_simp; try with_reducible rfl)
        simp only [Act.put, List.setIfInBounds_toArray, List.set_cons_zero, List.set_cons_succ, List.getElem_toArray, List.getElem_cons_succ, List.getElem_cons_zero]
        refine wpAnyH_take (i := 20) (v := ?_) rfl (by kernel_rfl) (by kernel_rfl) (by kernel_rfl) (fun _ _ _ h => h) (Or.inl ⟨by kernel_rfl, ?_⟩) hHeld ?_
        rotate_left
        · (intro w' hSw; obtain ⟨hS0, hS1, hS2, hS3, hS4⟩ := hSw; go_simp; try with_reducible rfl)
        simp only [Act.put, List.setIfInBounds_toArray, List.set_cons_zero, List.set_cons_succ, List.getElem_toArray, List.getElem_cons_succ, List.getElem_cons_zero]
        refine wpAnyH_take (i := 21) (v := ?_) rfl (by kernel_rfl) (by kernel_rfl) (by kernel_rfl) (fun _ _ _ h => h) (Or.inl ⟨by kernel_rfl, ?_⟩) hHeld ?_
        rotate_left
        · (intro w' hSw; obtain ⟨hS0, hS1, hS2, hS3, hS4⟩ := hSw; go_simp; try with_reducible rfl)
        simp only [Act.put, List.setIfInBounds_toArray, List.set_cons_zero, List.set_cons_succ, List.getElem_toArray, List.getElem_cons_succ, List.getElem_cons_zero]
        refine wpAnyH_ready (rs := [22]) (by kernel_rfl) (by simp) (AllReadyH.cons rfl (fun K hK => ?_) AllReadyH.nil)
        go_simp
        have hH2 := hHeld.below ((Below.refl _ _).alloc (Nat.le_refl _) (.cells #[.int .i64 0, .int .i64 0, .slice none 0 0, .slice none 0 0, .int .i64 0, .int .i64 0, .int .i64 0, .int .i64 0, .slice none 0 0] 28))
        clear hHeld
        refine hK.out _ _ (by exact hH2) (fun hHeld => ?_)
        clear hK K
        (try simp only [Act.put, List.setIfInBounds_toArray, List.set_cons_zero, List.set_cons_succ, List.getElem_toArray, List.getElem_cons_succ, List.getElem_cons_zero])
        refine wpAnyH_ready (rs := [23]) (by kernel_rfl) (by simp) (AllReadyH.cons rfl (fun K hK => ?_) AllReadyH.nil)
        refine wp_store_mid 28 _ _ rfl V1.heap.size 0 Ly.toArray rfl rfl hT hi' ho' ?_
        generalize hW3 : World.setCells _ _ _ _ = W3
        obtain ⟨hY3, hb3⟩ := gy_after HY.out.2.2 hG.out.hb.size HY.out.2.1 HY.out.1 hW3
        have hH3 := hHeld1.below hb3
        clear hHeld hHeld1 hH2 hW3 hT hi' ho' HY
        refine hK.out _ _ (by exact hH3) (fun hHeld => ?_)
        clear hK K
        (try simp only [Act.put, List.setIfInBounds_toArray, List.set_cons_zero, List.set_cons_succ, List.getElem_toArray, List.getElem_cons_succ, List.getElem_cons_zero])
        refine wpAnyH_take (i := 24) (v := ?_) rfl (by kernel_rfl) (by kernel_rfl) (by kernel_rfl) (fun _ _ _ h => h) (Or.inl ⟨by kernel_rfl, ?_⟩) hHeld ?_
        rotate_left
        · (intro w' hSw; obtain ⟨hS0, hS1, hS2, hS3, hS4⟩ := hSw; go_simp; try with_reducible rfl)
        simp only [Act.put, List.setIfInBounds_toArray, List.set_cons_zero, List.set_cons_succ, List.getElem_toArray, List.getElem_cons_succ, List.getElem_cons_zero]
        refine wpAnyH_done (by kernel_rfl) ?_ _
        generalize V1.heap.size = By at hY3 ⊢
        replace hG := Lib.hid (hG.out.below hb3)
        clear hb3 hHeld hH3
        obtain ⟨-, hE, hYe, hokY, hlenX⟩ := HX.out
        by_cases hE0 : E = 0
        rotate_left
        · have hne : (E != 0) = true := by rw [bne_iff_ne]; exact hE0
          have HZ := Lib.hid (And.intro hE (And.intro hYe hE0)); clear hE hYe hE0 hokY hlenX HX
          go_wp2_with fail
          exact ⟨⟨i + 1, X, _, p', c', Lx, by omega, rfl, hG.out⟩, by simp [intOf]; omega⟩
        · subst hE0
          obtain ⟨hnow, hlen, htil⟩ := setR_at hE
          rw [hYe] at hnow hlen htil
          have hlenY : Y.l.length = N := hlen.trans hlenX
          obtain ⟨Ay, ky, rfl⟩ := own_form' hY3.cp.s
          have hrdy := Rd.own hY3.cp.s
          have hrdx := (by have := hG.out.x.rt.s; exact this : SlV W3 5 (.slice (some ⟨b, o, none⟩) N kx) X.l.length (rfCs X.l))
          obtain ⟨A', k', e', hrdx, -⟩ := hrdx
          injection e' with e1 e2 e3
          subst e1
          rw [hlenX] at hrdx
          have hyb := hY3.box.refs
          rw [hlenY] at hrdy hyb
          have hxb := hG.out.x.refs
          have HZ := Lib.hid (And.intro hnow (And.intro htil (And.intro hlenY (And.intro hlenX (And.intro hrdy (And.intro hrdx (And.intro hY3 hokY))))))); clear hnow hlen htil hlenY hlenX hrdy hrdx hY3 hokY hE hYe HX e2 e3
          go_wp2_with fail
          go_loopw [12] (fun a w2 => ∃ (q k : Nat), q ≤ N ∧ a = .int .i64 (q : Nat) ∧ w2 = W3.drewN k) (fun a _ => N - (intOf a).toNat)
          case atStart => exact ⟨0, 0, by omega, rfl, rfl⟩
          case round =>
            obtain ⟨q, k, hq, rfl, hwr⟩ := hrel
            have z2 : wr.cell? ⟨By, 2, none⟩ = some (.slice Ay N ky) := by rw [hwr]; exact hyb
            have y2 : wr.cell? ⟨Bx, 2, none⟩ = some (.slice (some ⟨b, o, none⟩) N kx) := by rw [hwr]; exact hxb
            by_cases hqN : q < N
            · have hr1 : Rd wr 5 Ay N (rfCs Y.l) := by rw [hwr]; exact HZ.out.2.2.2.2.1.drewN k
              have hr2 : Rd wr 5 (some ⟨b, o, none⟩) N (rfCs X.l) := by rw [hwr]; exact HZ.out.2.2.2.2.2.1.drewN k
              obtain ⟨b9, o9, rfl, hb9, hrf9⟩ := hr1.rf HZ.out.2.2.1 hqN
              obtain ⟨b8, o8, e8, hb8, hrf8⟩ := hr2.rf HZ.out.2.2.2.1 hqN
              injection e8 with e8
              injection e8 with e8 e8'
              subst e8 e8'
              obtain ⟨-, -, -, -, d4⟩ := hrf9 _ rfl
              obtain ⟨-, -, -, -, c4⟩ := hrf8 _ rfl
              have hle := HZ.out.2.1 q
              generalize (Y.l.getD q default).til = yt at d4 hle
              generalize (X.l.getD q default).til = xt at c4 hle
              have hno : ¬ yt < xt := by omega
              have q0 : (0 : Int) ≤ (q : Int) := by omega
              have q1 : (q : Int) < (N : Int) := by omega
              have HQ := Lib.hid hwr; clear hwr hrf8 hrf9 hr1 hr2
              go_wp2_with fail
              go_quiet (fail)
              go_wp2_with fail
              rw [HQ.out]
              go_roundw
              case rel => exact ⟨q + 1, _, by omega, by go_num, World.drewN_drewN _ _ _⟩
              case measure => simp [intOf]; omega
            · obtain rfl : q = N := by omega
              have hG4 := (hG.out.drewN k)
              rw [← hwr] at hG4
              have hY4 : GY w.heap.size By Y (.slice Ay Y.l.length ky) py cy sv Ly wr := by rw [hwr]; exact HZ.out.2.2.2.2.2.2.1.below (below_drewN (Below.refl _ _) k)
              have hT4 : wr.there Bx 0 Ly.toArray.size := there_rowd hG4.x.at_ (by rw [hY4.l, hG4.x.l]; exact Nat.le_refl _)
              have hi4 := rtL_info hY4.l
              have ho4 := rtL_one hY4.l hY4.cp.rt
              have HQ := Lib.hid (And.intro hG4 hY4); clear hG4 hY4 hwr
              go_wp2_with (first | (with_reducible refine wpList_load_mid rfl 28 _ rfl By 0 rfl Ly _ HQ.out.2.box.range Try.underlying28 rfl HQ.out.2.box.info ?_) | (with_reducible refine wpList_store_mid rfl 28 _ _ rfl Bx 0 Ly.toArray rfl rfl hT4 hi4 ho4 ?_))
              exact ⟨⟨i + 1, Y, _, py, cy, Ly, by omega, rfl, HQ.out.1.store HQ.out.2.cp HQ.out.2.l HZ.out.2.2.2.2.2.2.2 (HZ.out.2.2.1.trans H0.out.2.2.2.2.2.1) (HZ.out.1.trans HQ.out.1.now) rfl⟩, by simp [intOf]; omega⟩
      · go_simp
        generalize hA : World.alloc V0 _ = V1
        have hbA : Below V0.heap.size V0 V1 := by rw [← hA]; exact (Below.refl _ _).alloc (Nat.le_refl _) _
        have hHeld1 := hHeld
        clear hHeld
        refine hK.out _ _ (by exact hHeld1.below hbA) (fun hHeld => ?_)
        clear hK K
        (try simp only [Act.put, List.setIfInBounds_toArray, List.set_cons_zero, List.set_cons_succ, List.getElem_toArray, List.getElem_cons_succ, List.getElem_cons_zero])
        refine wpAnyH_ready (rs := [18]) (by kernel_rfl) (by simp) (AllReadyH.cons rfl (fun K hK => ?_) AllReadyH.nil)
        go_simp
        refine (HX.out.1 V1 (hG.out.x.rt.below hbA)).mono ?_
        rintro e V2 ⟨v, rfl, ⟨rv, rfl, ⟨sy, py, cy, sv, rfl, hcp⟩⟩, hb⟩
        obtain ⟨Ly, hLy⟩ : ∃ Ly, Ly = rtL Y sy py cy := ⟨_, rfl⟩
        rw [rtV_L, ← hLy]
        have hzA : V1.heap[V0.heap.size]? = some (.cells rtZ.toArray 28 (0, 0)) := by rw [← hA]; exact heap_alloc_new V0 _
        have hz2 := (hb.block _ (blk_lt hzA)).trans hzA
        have hT : V2.there V0.heap.size 0 Ly.toArray.size := there_rowd hz2 (by rw [hLy]; exact Nat.le_refl _)
        have hi' := rtL_info hLy
        have ho' := rtL_one hLy hcp.rt
        have HY := Lib.hid (And.intro hLy (And.intro hcp (And.intro hb hA))); clear hLy hcp hb hA hzA hz2
        clear hHeld
        refine hK.out _ _ (by exact (hHeld1.below hbA).below HY.out.2.2.1) (fun hHeld => ?_)
        clear hK K
        (try simp only [Act.put, List.setIfInBounds_toArray, List.set_cons_zero, List.set_cons_succ, List.getElem_toArray, List.getElem_cons_succ, List.getElem_cons_zero])
        refine wpAnyH_take (i := 19) (v := ?_) rfl (by kernel_rfl) (by kernel_rfl) (by kernel_rfl) (fun _ _ _ h => h) (Or.inl ⟨by kernel_rfl, ?_⟩) hHeld ?_
        rotate_left
        · (intro w' hSw; obtain ⟨hS0, hS1, hS2, hS3, hS4⟩ := hSw; go_simp; try with_reducible rfl)
        simp only [Act.put, List.setIfInBounds_toArray, List.set_cons_zero, List.set_cons_succ, List.getElem_toArray, List.getElem_cons_succ, List.getElem_cons_zero]
        refine wpAnyH_take (i := 20) (v := ?_) rfl (by kernel_rfl) (by kernel_rfl) (by kernel_rfl) (fun _ _ _ h => h) (Or.inl ⟨by kernel_rfl, ?_⟩) hHeld ?_
        rotate_left
        · (intro w' hSw; obtain ⟨hS0, hS1, hS2, hS3, hS4⟩ := hSw; go_simp; try with_reducible rfl)
        simp only [Act.put, List.setIfInBounds_toArray, List.set_cons_zero, List.set_cons_succ, List.getElem_toArray, List.getElem_cons_succ, List.getElem_cons_zero]
        refine wpAnyH_take (i := 21) (v := ?_) rfl (by kernel_rfl) (by kernel_rfl) (by kernel_rfl) (fun _ _ _ h => h) (Or.inl ⟨by kernel_rfl, ?_⟩) hHeld ?_
        rotate_left
        · (intro w' hSw; obtain ⟨hS0, hS1, hS2, hS3, hS4⟩ := hSw; go_simp; try with_reducible rfl)
        simp only [Act.put, List.setIfInBounds_toArray, List.set_cons_zero, List.set_cons_succ, List.getElem_toArray, List.getElem_cons_succ, List.getElem_cons_zero]
        refine wpAnyH_ready (rs := [23]) (by kernel_rfl) (by simp) (AllReadyH.cons rfl (fun K hK => ?_) AllReadyH.nil)
        refine wp_store_mid 28 _ _ rfl V0.heap.size 0 Ly.toArray rfl rfl hT hi' ho' ?_
        generalize hW3 : World.setCells _ _ _ _ = W3
        obtain ⟨hY3, hb3⟩ := gy_ahead HY.out.2.2.2 hG.out.hb.size HY.out.2.2.1 HY.out.2.1 HY.out.1 hW3
        have hH3 := hHeld1.below hb3
        clear hHeld hHeld1 hW3 hT hi' ho' HY hbA
        refine hK.out _ _ (by exact hH3) (fun hHeld => ?_)
        clear hK K
        (try simp only [Act.put, List.setIfInBounds_toArray, List.set_cons_zero, List.set_cons_succ, List.getElem_toArray, List.getElem_cons_succ, List.getElem_cons_zero])
        refine wpAnyH_take (i := 24) (v := ?_) rfl (by kernel_rfl) (by kernel_rfl) (by kernel_rfl) (fun _ _ _ h => h) (Or.inl ⟨by kernel_rfl, ?_⟩) hHeld ?_
        rotate_left
        · (intro w' hSw; obtain ⟨hS0, hS1, hS2, hS3, hS4⟩ := hSw; go_simp; try with_reducible rfl)
        simp only [Act.put, List.setIfInBounds_toArray, List.set_cons_zero, List.set_cons_succ, List.getElem_toArray, List.getElem_cons_succ, List.getElem_cons_zero]
        refine wpAnyH_done (by kernel_rfl) ?_ _
        generalize V0.heap.size = By at hY3 ⊢
        replace hG := Lib.hid (hG.out.below hb3)
        clear hb3 hHeld hH3
        obtain ⟨-, hE, hYe, hokY, hlenX⟩ := HX.out
        by_cases hE0 : E = 0
        rotate_left
        · have hne : (E != 0) = true := by rw [bne_iff_ne]; exact hE0
          have HZ := Lib.hid (And.intro hE (And.intro hYe hE0)); clear hE hYe hE0 hokY hlenX HX
          go_wp2_with fail
          exact ⟨⟨i + 1, X, _, p', c', Lx, by omega, rfl, hG.out⟩, by simp [intOf]; omega⟩
        · subst hE0
          obtain ⟨hnow, hlen, htil⟩ := setR_at hE
          rw [hYe] at hnow hlen htil
          have hlenY : Y.l.length = N := hlen.trans hlenX
          obtain ⟨Ay, ky, rfl⟩ := own_form' hY3.cp.s
          have hrdy := Rd.own hY3.cp.s
          have hrdx := (by have := hG.out.x.rt.s; exact this : SlV W3 5 (.slice (some ⟨b, o, none⟩) N kx) X.l.length (rfCs X.l))
          obtain ⟨A', k', e', hrdx, -⟩ := hrdx
          injection e' with e1 e2 e3
          subst e1
          rw [hlenX] at hrdx
          have hyb := hY3.box.refs
          rw [hlenY] at hrdy hyb
          have hxb := hG.out.x.refs
          have HZ := Lib.hid (And.intro hnow (And.intro htil (And.intro hlenY (And.intro hlenX (And.intro hrdy (And.intro hrdx (And.intro hY3 hokY))))))); clear hnow hlen htil hlenY hlenX hrdy hrdx hY3 hokY hE hYe HX e2 e3
          go_wp2_with fail
          go_loopw [12] (fun a w2 => ∃ (q k : Nat), q ≤ N ∧ a = .int .i64 (q : Nat) ∧ w2 = W3.drewN k) (fun a _ => N - (intOf a).toNat)
          case atStart => exact ⟨0, 0, by omega, rfl, rfl⟩
          case round =>
            obtain ⟨q, k, hq, rfl, hwr⟩ := hrel
            have z2 : wr.cell? ⟨By, 2, none⟩ = some (.slice Ay N ky) := by rw [hwr]; exact hyb
            have y2 : wr.cell? ⟨Bx, 2, none⟩ = some (.slice (some ⟨b, o, none⟩) N kx) := by rw [hwr]; exact hxb
            by_cases hqN : q < N
            · have hr1 : Rd wr 5 Ay N (rfCs Y.l) := by rw [hwr]; exact HZ.out.2.2.2.2.1.drewN k
              have hr2 : Rd wr 5 (some ⟨b, o, none⟩) N (rfCs X.l) := by rw [hwr]; exact HZ.out.2.2.2.2.2.1.drewN k
              obtain ⟨b9, o9, rfl, hb9, hrf9⟩ := hr1.rf HZ.out.2.2.1 hqN
              obtain ⟨b8, o8, e8, hb8, hrf8⟩ := hr2.rf HZ.out.2.2.2.1 hqN
              injection e8 with e8
              injection e8 with e8 e8'
              subst e8 e8'
              obtain ⟨-, -, -, -, d4⟩ := hrf9 _ rfl
              obtain ⟨-, -, -, -, c4⟩ := hrf8 _ rfl
              have hle := HZ.out.2.1 q
              generalize (Y.l.getD q default).til = yt at d4 hle
              generalize (X.l.getD q default).til = xt at c4 hle
              have hno : ¬ yt < xt := by omega
              have q0 : (0 : Int) ≤ (q : Int) := by omega
              have q1 : (q : Int) < (N : Int) := by omega
              have HQ := Lib.hid hwr; clear hwr hrf8 hrf9 hr1 hr2
              go_wp2_with fail
              go_quiet (fail)
              go_wp2_with fail
              rw [HQ.out]
              go_roundw
              case rel => exact ⟨q + 1, _, by omega, by go_num, World.drewN_drewN _ _ _⟩
              case measure => simp [intOf]; omega
            · obtain rfl : q = N := by omega
              have hG4 := (hG.out.drewN k)
              rw [← hwr] at hG4
              have hY4 : GY w.heap.size By Y (.slice Ay Y.l.length ky) py cy sv Ly wr := by rw [hwr]; exact HZ.out.2.2.2.2.2.2.1.below (below_drewN (Below.refl _ _) k)
              have hT4 : wr.there Bx 0 Ly.toArray.size := there_rowd hG4.x.at_ (by rw [hY4.l, hG4.x.l]; exact Nat.le_refl _)
              have hi4 := rtL_info hY4.l
              have ho4 := rtL_one hY4.l hY4.cp.rt
              have HQ := Lib.hid (And.intro hG4 hY4); clear hG4 hY4 hwr
              go_wp2_with (first | (with_reducible refine wpList_load_mid rfl 28 _ rfl By 0 rfl Ly _ HQ.out.2.box.range Try.underlying28 rfl HQ.out.2.box.info ?_) | (with_reducible refine wpList_store_mid rfl 28 _ _ rfl Bx 0 Ly.toArray rfl rfl hT4 hi4 ho4 ?_))
              exact ⟨⟨i + 1, Y, _, py, cy, Ly, by omega, rfl, HQ.out.1.store HQ.out.2.cp HQ.out.2.l HZ.out.2.2.2.2.2.2.2 (HZ.out.2.2.1.trans H0.out.2.2.2.2.2.1) (HZ.out.1.trans HQ.out.1.now) rfl⟩, by simp [intOf]; omega⟩
    · obtain rfl : i = n := by omega
      have y1 := hG.r.now
      rw [← HS.out.2.2.2] at y1
      have x1 := hG.x.now
      have f1 := frozen_of wr Bx 1 _ _ hG.x.at_
      have hlenX : X.l.length = N := hG.len.trans H0.out.2.2.2.2.2.1.symm
      have hw1 : IntKind.i64.wrap (lat : Int) = (lat : Int) := IntWalk.i64_in _ (by omega)
      have hw2 : IntKind.i64.wrap (nn + (lat : Int)) = nn + (lat : Int) := IntWalk.i64_in _ (by have := HT.out; omega)
      have htr : -9223372036854775808 ≤ nn + (lat : Int) ∧ nn + (lat : Int) ≤ 9223372036854775807 := by have := HT.out; omega
      have HI := Lib.hid (And.intro hG (And.intro hlenX htr)); clear hG hlenX htr
      go_upto_region 21 with (fail)
      generalize hW5 : World.setCell _ _ _ = W5
      obtain ⟨t, ht⟩ : ∃ t, t = nn + (lat : Int) := ⟨_, rfl⟩
      rw [← ht] at hW5
      obtain ⟨b5, hb5⟩ := HI.out.1.fin t hW5
      obtain ⟨X', hX'⟩ : ∃ X', X' = { X with now := t } := ⟨_, rfl⟩
      have hok' : RtOk X' := by rw [hX']; exact HI.out.1.ok.now_at (by rw [ht]; exact HI.out.2.2)
      have hlen' : X'.l.length = N := by rw [hX']; exact HI.out.2.1
      have hnow' : X'.now = t := by rw [hX']
      rw [← hX'] at b5
      obtain ⟨L5, hL5⟩ : ∃ L5, L5 = rtL X' s' p' c' := ⟨_, rfl⟩
      rw [← hL5] at b5
      have htrim := trim_any X' s' p' c' W5 (by rw [hlen']; exact hl60) hok' b5.rt
      obtain ⟨S1, hS1⟩ : ∃ S1, S1 = sel false (prs X') := ⟨_, rfl⟩
      rw [← hS1, rtV_L, ← hL5] at htrim
      obtain ⟨N1, hN1'⟩ : ∃ N1, N1 = S1.length := ⟨_, rfl⟩
      have hN60 : N1 ≤ 60 := by rw [hN1', hS1]; have h1 := sel_len false (prs X'); rw [prs_len] at h1; omega
      have HK := Lib.hid (And.intro b5 (And.intro hb5 (And.intro htrim (And.intro hok' (And.intro hlen' (And.intro hnow' (And.intro hS1 hN1')))))))
      clear b5 hb5 htrim hok' hlen' hnow' hS1 hN1' hL5 hX' ht hW5 y1 x1 f1 hw1 hw2
      go_wp2_with (with_reducible refine wpList_load_mid rfl 28 _ rfl Bx 0 rfl L5 _ HK.out.1.range Try.underlying28 rfl HK.out.1.info ?_)
      refine HK.out.2.2.1.mono ?_
      rintro e w6 ⟨v, rfl, ⟨s6, p6, c6, rfl, hrt6⟩, hb6⟩
      have b6 := HK.out.1.below hb6
      have hbw6 := HK.out.2.1.trans (hb6.mono HK.out.2.1.size)
      obtain ⟨A6, k6, hs6, hrd6, -⟩ := hrt6.s
      subst hs6
      simp only [rtV]
      rw [← HK.out.2.2.2.2.2.2.2] at hrd6 ⊢
      obtain ⟨Ax, kx, hs', hrdx, -⟩ := b6.rt.s
      rw [HK.out.2.2.2.2.1] at hs' hrdx
      have y2 := b6.refs
      have y1 := b6.now
      rw [hs'] at y2
      rw [HK.out.2.2.2.2.2.1] at y1
      have hfd := fun W => field_refs (.int .i64 X'.n) (.int .i64 X'.now) (.slice A6 N1 k6) p6 (.int .i64 X'.p.d) (.int .i64 X'.p.w) (.int .i64 X'.p.mo) (.int .i64 X'.p.y) c6 W
      have HM := Lib.hid (And.intro hbw6 (And.intro hrd6 hrdx)); clear hbw6 hrd6 hrdx b6 hrt6 hb6 hs'
      go_wp2_with fail
      clear hfd
      go_loopw [14] (fun a wr => ∃ (i k : Nat), i ≤ N ∧ a = .int .i64 (i : Nat) ∧ wr = w6.drewN k) (fun a _ => N - (intOf a).toNat)
      case atStart => exact ⟨0, 0, by omega, rfl, rfl⟩
      case round =>
        obtain ⟨i, kk, hi, rfl, hwr⟩ := hrel
        have z2 : wr.cell? ⟨Bx, 2, none⟩ = some (.slice Ax N kx) := by rw [hwr]; exact y2
        have z1 : wr.cell? ⟨Bx, 1, none⟩ = some (.int .i64 t) := by rw [hwr]; exact y1
        by_cases hin : i < N
        · have hr1 : Rd wr 5 A6 N1 (rfCs S1) := by rw [hwr]; exact HM.out.2.1.drewN kk
          have hr2 : Rd wr 5 Ax N (rfCs X'.l) := by rw [hwr]; exact HM.out.2.2.drewN kk
          obtain ⟨b, off, rfl, hbl, hrf⟩ := hr2.rf HK.out.2.2.2.2.1 hin
          obtain ⟨x, hx⟩ : ∃ x, X'.l.getD i default = x := ⟨_, rfl⟩
          obtain ⟨c0, c1, c2, c3, c4⟩ := hrf x hx
          have hany : t < x.til → (S1.any fun y => rfB y x) = true := fun h => by
            rw [List.any_eq_true]
            refine ⟨x, ?_, rfB_self x⟩
            rw [HK.out.2.2.2.2.2.2.1, sel_false_eq]
            refine List.mem_filter.2 ⟨by rw [← hx]; exact Pl.getD_mem X'.l i (by rw [HK.out.2.2.2.2.1]; exact hin), ?_⟩
            unfold keepF
            rw [Bool.or_eq_true, HK.out.2.2.2.2.2.1]
            exact .inr (decide_eq_true h)
          have i0 : (0 : Int) ≤ (i : Int) := by omega
          have i1 : (i : Int) < (N : Int) := by omega
          have HI := Lib.hid (And.intro hwr (And.intro hr1 hany)); clear hwr hr1 hr2 hrf hx hany
          generalize wr = U at z2 z1 c0 c1 c2 c3 c4 hbl HI ⊢
          go_wp2_with fail
          go_loopw [15, 16] (fun t i w2 => ∃ (q k : Nat), q ≤ N1 ∧ i = .int .i64 (q : Nat) ∧ t = .bool ((S1.take q).any fun y => rfB y x) ∧ w2 = U.drewN k) (fun _ i _ => N1 - (intOf i).toNat)
          case atStart => exact ⟨0, 0, by omega, rfl, rfl, rfl⟩
          case round =>
            obtain ⟨q, k', hq, rfl, rfl, hwr⟩ := hrel
            have t2 : wr.cell? ⟨Bx, 2, none⟩ = some (.slice (some ⟨b, off, none⟩) N kx) := by rw [hwr]; exact z2
            have t1 : wr.cell? ⟨Bx, 1, none⟩ = some (.int .i64 t) := by rw [hwr]; exact z1
            have d0 : wr.cell? ⟨b, off + i * 5, none⟩ = some (.string ⟨x.m.toArray⟩) := by rw [hwr]; exact c0
            have d1 : wr.cell? ⟨b, off + i * 5 + 1, none⟩ = some (.int .i64 x.n) := by rw [hwr]; exact c1
            have d2 : wr.cell? ⟨b, off + i * 5 + 2, none⟩ = some (.int .i64 x.t) := by rw [hwr]; exact c2
            have d3 : wr.cell? ⟨b, off + i * 5 + 3, none⟩ = some (.string ⟨x.nm.toArray⟩) := by rw [hwr]; exact c3
            have d4 : wr.cell? ⟨b, off + i * 5 + 4, none⟩ = some (.int .i64 x.til) := by rw [hwr]; exact c4
            by_cases hqN : q < N1
            · have hr1 : Rd wr 5 A6 N1 (rfCs S1) := by rw [hwr]; exact HI.out.2.1.drewN k'
              obtain ⟨b9, o9, rfl, hb9, hrf9⟩ := hr1.rf HK.out.2.2.2.2.2.2.2.symm hqN
              obtain ⟨y, hy⟩ : ∃ y, S1.getD q default = y := ⟨_, rfl⟩
              obtain ⟨e0, e1, e2, e3, e4⟩ := hrf9 y hy
              have htk : ((S1.take (q + 1)).any fun y => rfB y x) = ((S1.take q).any (fun y => rfB y x) || rfB y x) := by
                have hql : q < S1.length := by rw [← HK.out.2.2.2.2.2.2.2]; exact hqN
                rw [List.take_succ_eq_append_getElem hql, List.any_append]
                have : S1[q] = y := by rw [← hy, List.getD_eq_getElem?_getD, List.getElem?_eq_getElem hql]; rfl
                rw [this]; simp
              have he := fun W => rf_eq y x W
              obtain ⟨T, hT⟩ : ∃ T, (S1.take q).any (fun y => rfB y x) = T := ⟨_, rfl⟩
              obtain ⟨z, hz⟩ : ∃ z, rfB y x = z := ⟨_, rfl⟩
              rw [hT, hz] at htk
              rw [hT]
              rw [hz] at he
              have q0 : (0 : Int) ≤ (q : Int) := by omega
              have q1 : (q : Int) < (N1 : Int) := by omega
              have HQ := Lib.hid (And.intro htk (And.intro hT hwr)); clear htk hT hwr hy hrf9 hr1 hz
              cases T
              · go_wp2_with fail
                go_quiet (fail)
                go_wp2_with fail
                rw [HQ.out.2.2]
                go_roundw
                case rel => exact ⟨q + 1, _, by omega, by go_num, by rw [HQ.out.1, Bool.false_or], World.drewN_drewN _ _ _⟩
                case measure => simp [intOf]; omega
              · go_wp2_with fail
                go_quiet (fail)
                go_wp2_with fail
                rw [HQ.out.2.2]
                go_roundw
                case rel => exact ⟨q + 1, _, by omega, by go_num, by rw [HQ.out.1]; rfl, World.drewN_drewN _ _ _⟩
                case measure => simp [intOf]; omega
            · obtain rfl : q = N1 := by omega
              rw [List.take_of_length_le (by rw [← HK.out.2.2.2.2.2.2.2]; exact Nat.le_refl _)]
              have HQ := Lib.hid hwr; clear hwr
              by_cases htl : t < x.til
              · rw [HI.out.2.2 htl]
                go_wp2_with fail
                go_quiet (fail)
                go_wp2_with fail
                rw [HQ.out, HI.out.1]
                go_roundw
                case rel => exact ⟨i + 1, _, by omega, by go_num, by rw [World.drewN_drewN, World.drewN_drewN]⟩
                case measure => simp [intOf]; omega
              · have htl' : decide (t < x.til) = false := decide_eq_false htl
                have htl2 : x.til ≤ t := by omega
                generalize x.til = xt at c4 htl htl' htl2 d4 ⊢
                generalize (S1.any fun y => rfB y x) = T
                go_wp2_with fail
                go_quiet (fail)
                go_wp2_with fail
                rw [HQ.out, HI.out.1]
                go_roundw
                case rel => exact ⟨i + 1, _, by omega, by go_num, by rw [World.drewN_drewN, World.drewN_drewN]⟩
                case measure => simp [intOf]; omega
        · obtain rfl : i = N := by omega
          go_wp2_with fail
          go_ret
          exact ⟨_, rfl, rfl, below_drewN HM.out.1 kk⟩
-- FRAME
set_option maxRecDepth 100000 in
theorem holdGrows_lifted (os : Os) (started : os.Started) (H : Type) (enc : TypeId × Value → H) :
    ReturnsInHanded {} Try.checked os 8 .any (Rows.holdGrowsSpec.pre6 enc Try.prog Try.f8 Rows.holdGrowsRow.domain false) (Rows.holdGrowsSpec.post enc Try.prog Try.f8 false true false false) := by
  refine returnsInHanded_of_change_sized (C := Try.checked) own started (by kernel_rfl) Try.func8
    (ChangeSpec.witness6 (enc := enc) (C := Try.checked) false ⟨#[], #[.agg #[.int .i64 0, .int .i64 0, .slice none 0 0, .slice none 0 0, .int .i64 0, .int .i64 0, .int .i64 0, .int .i64 0, .slice none 0 0], .slice none 0 0, .int .u16 0], []⟩ 8 (by kernel_rfl) (by kernel_rfl) (by kernel_rfl) (by kernel_rfl)) ?_
  intro W base args ds gs before hval0 hW hcnd hsz0 _
  have hval : ∀ (j : Nat) t v, Try.f8.params[j]? = some t → args[j]? = some v → Value.okWide Try.prog W .any base t v := hval0
  have hW' := hW
  obtain ⟨p, q, hA0, hV, rfl, hfz, hnd⟩ := hW
  have hA : DataW.TrodAll enc Try.prog W 0 (fun _ => true) true Try.f8.params.toList args.toList ds p := hA0
  have hsz : (DataW.weightsEach Try.prog (Try.f8.params.toList ++ Rows.holdGrowsSpec.plain.varTypes Try.prog) (ds ++ gs)).all (· ≤ reachBytes) = true := hsz0
  rw [Try.params8] at hA hval hsz
  obtain ⟨v0, vs0, d0, ds0, p0, q0, hargs, rfl, rfl, h0, r0⟩ := trodAll_cons hA
  obtain ⟨v1, vs1, d1, ds1, p1, q1, rfl, rfl, rfl, h1, r1⟩ := trodAll_cons r0
  obtain ⟨v2, vs2, d2, ds2, p2, q2, rfl, rfl, rfl, h2, r2⟩ := trodAll_cons r1
  obtain ⟨rfl, rfl, rfl⟩ := trodAll_nil r2
  obtain rfl : args = #[v0, v1, v2] := by cases args; simp_all
  obtain ⟨rfl, rfl⟩ := trodVars_none hV
  have k0 := h0
  have lt0 : ∀ x ∈ p0, x.block < W.heap.size := by obtain ⟨m, hm⟩ := k0; exact DataW.trod_lt m _ _ _ hm
  have hz0 : ∀ m ∈ d0.weights Try.prog 28, m ≤ reachBytes := fun m hm => by
    have h1 := List.all_eq_true.1 hsz m (DataW.weights_mem_each (j := 0) rfl rfl m hm)
    simpa using h1
  obtain ⟨R0, s0, p0, c0, rfl, eA0, eB0, eC0⟩ := open_root (hval 0 28 v0 rfl rfl) h0 hz0
  have k1 := h1
  have lt1 : ∀ x ∈ p1, x.block < W.heap.size := by obtain ⟨m, hm⟩ := k1; exact DataW.trod_lt m _ _ _ hm
  have hz1 : ∀ m ∈ d1.weights Try.prog 45, m ≤ reachBytes := fun m hm => by
    have h1 := List.all_eq_true.1 hsz m (DataW.weights_mem_each (j := 1) rfl rfl m hm)
    simpa using h1
  obtain ⟨A1, n1, c1, l1, rfl, eA1, eB1, eC1⟩ := open_sets (hval 1 45 v1 rfl rfl) h1 hz1
  have k2 := h2
  have lt2 : ∀ x ∈ p2, x.block < W.heap.size := by obtain ⟨m, hm⟩ := k2; exact DataW.trod_lt m _ _ _ hm
  have hz2 : ∀ m ∈ d2.weights Try.prog 46, m ≤ reachBytes := fun m hm => by
    have h1 := List.all_eq_true.1 hsz m (DataW.weights_mem_each (j := 2) rfl rfl m hm)
    simpa using h1
  obtain ⟨x2, rfl, eA2⟩ := open_u16 (hval 2 46 v2 rfl rfl) h2 hz2
  clear hA0 hval0 hsz0
  refine (holdGrows_walk R0 s0 p0 c0 A1 n1 c1 l1 x2 W eA0 eB0 eC0 eA1 eB1 eC1 eA2).mono fun e W' ⟨v, he, hv, bel⟩ => ?_
  subst he hv
  exact ⟨_, rfl, _, _, _, [], _, [], hW', trodAll_mk1 (shut_bool Try.underlying4 _), (trodAll_cons_mk (Below.trod laidOut (by kernel_rfl) (of_decide_eq_true (by kernel_rfl)) k0 bel lt0) (trodAll_cons_mk (Below.trod laidOut (by kernel_rfl) (of_decide_eq_true (by kernel_rfl)) k1 bel lt1) (trodAll_cons_mk (Below.trod laidOut (by kernel_rfl) (of_decide_eq_true (by kernel_rfl)) k2 bel lt2) trodAll_mk0))), rfl, bel.frame _, fun h => by cases h⟩

theorem holdGrows_holds : Rows.HoldGrowsSaid :=
  OpenClaim.holds_of_wide 8 Try.f8 rfl rfl rfl rfl rfl rfl rfl ⟨rfl, rfl, rfl, rfl, rfl⟩ rfl rfl rfl rfl rfl (by kernel_rfl) Try.func8 (by kernel_rfl)
    (of_decide_eq_true (by kernel_rfl)) (by unfold Func.isWrapper; first | (rw [if_pos (by decide +kernel)]; kernel_rfl) | (rw [if_neg (by decide +kernel)]; exact ⟨rfl, rfl⟩))
    (fun os started H enc _ => holdGrows_lifted os started H enc)
#print axioms holdGrows_holds
end Go.Proofs.Yteamkiblogbfmaa
