/- More keeps more: a policy none of whose numbers is lower keeps all that the other one does; the latest one of each machine is kept; and what is held. For every policy, all snapshots and every minute. -/
import Derived.Test.YtmncgnmgdkdhaaaGreatDoorPolLaid
import Derived.Test.YtmncgnmgdkdhaaaGreatDoorShaped
import Derived.Test.YtmncgnmgdkdhaaaGreatDoorTie
import Derived.Test.YtmncgnmgdkdhaaaGreatDoorCards
import Derived.Test.YtmncgnmgdkdhaaaGreatDoorPolBy
namespace Go.Proofs.YtmncgnmgdkdhaaaGreatDoor
open Go.ChangeShapes Go.WideShapes Go.ChangeAt Go.RowKit
set_option linter.unusedVariables false
set_option linter.unusedSimpArgs false
structure PB2 (Bp By Bq : Nat) (p q : Pl.Pol) (s : Value) (now : Int) (w : World) : Prop where
  c0 : w.cell? ⟨Bp, 0, none⟩ = some (.int .i64 p.d)
  c1 : w.cell? ⟨Bp, 1, none⟩ = some (.int .i64 p.w)
  c2 : w.cell? ⟨Bp, 2, none⟩ = some (.int .i64 p.mo)
  c3 : w.cell? ⟨Bp, 3, none⟩ = some (.int .i64 p.y)
  b0 : w.cell? ⟨By, 0, none⟩ = some s
  b1 : w.cell? ⟨By, 1, none⟩ = some (.int .i64 now)
  q0 : w.cell? ⟨Bq, 0, none⟩ = some (.int .i64 q.d)
  q1 : w.cell? ⟨Bq, 1, none⟩ = some (.int .i64 q.w)
  q2 : w.cell? ⟨Bq, 2, none⟩ = some (.int .i64 q.mo)
  q3 : w.cell? ⟨Bq, 3, none⟩ = some (.int .i64 q.y)
theorem PB2.below {Bp By Bq : Nat} {p q : Pl.Pol} {s : Value} {now : Int} {w w' : World} (h : PB2 Bp By Bq p q s now w) (hb : Below w.heap.size w w') : PB2 Bp By Bq p q s now w' := by
  have h1 := World.block_lt_of_cell? _ _ h.c0
  have h2 := World.block_lt_of_cell? _ _ h.b0
  have h3 := World.block_lt_of_cell? _ _ h.q0
  exact ⟨(hb.cell (p := ⟨Bp, 0, none⟩) h1).trans h.c0, (hb.cell (p := ⟨Bp, 1, none⟩) h1).trans h.c1, (hb.cell (p := ⟨Bp, 2, none⟩) h1).trans h.c2, (hb.cell (p := ⟨Bp, 3, none⟩) h1).trans h.c3, (hb.cell (p := ⟨By, 0, none⟩) h2).trans h.b0, (hb.cell (p := ⟨By, 1, none⟩) h2).trans h.b1, (hb.cell (p := ⟨Bq, 0, none⟩) h3).trans h.q0, (hb.cell (p := ⟨Bq, 1, none⟩) h3).trans h.q1, (hb.cell (p := ⟨Bq, 2, none⟩) h3).trans h.q2, (hb.cell (p := ⟨Bq, 3, none⟩) h3).trans h.q3⟩
/-- Is y no later one than x of x's machine? -/
def lateF (x y : Pl.Rf) : Bool := !(y.m == x.m) || (decide (y.t < x.t) || ((y.t == x.t) && decide (y.n ≤ x.n)))
theorem late_kept (p : Pl.Pol) {l : List Pl.Rf} (now : Int) {x : Pl.Rf} (h : l.all (lateF x) = true) : keepF p l now x = true := by
  refine latest_keepF p now fun z hz hm => ?_
  have := List.all_eq_true.1 h z hz
  unfold lateF at this
  simp only [hm, BEq.rfl, Bool.not_true, Bool.false_or, Bool.or_eq_true, Bool.and_eq_true, decide_eq_true_eq, beq_iff_eq] at this
  rw [Pl.ltr_no]; omega
theorem all_next (f : Pl.Rf → Bool) (l : List Pl.Rf) (k : Nat) (hk : k < l.length) : (l.take (k + 1)).all f = ((l.take k).all f && f (l.getD k default)) := by
  rw [List.take_succ_eq_append_getElem hk, List.all_append, List.getD_eq_getElem?_getD, List.getElem?_eq_getElem hk]; simp
theorem polE_zero {p : Pl.Pol} (h : Pl.polE p = 0) : (0 ≤ p.d ∧ p.d ≤ 1000) ∧ (0 ≤ p.w ∧ p.w ≤ 1000) ∧ (0 ≤ p.mo ∧ p.mo ≤ 1000) ∧ (0 ≤ p.y ∧ p.y ≤ 1000) := Pl.polE_fit h
/-- What the statement asks of the two answers. -/
structure MoreFacts (l : List Pl.Rf) (now : Int) (KA KB : List Bool) : Prop where
  la : KA.length = l.length
  lb : KB.length = l.length
  ab : ∀ j, j < l.length → KA.getD j false = true → KB.getD j false = true
  late : ∀ j, j < l.length → l.all (lateF (l.getD j default)) = true → KA.getD j false = true
  held : ∀ j, j < l.length → now < (l.getD j default).til → KA.getD j false = true
theorem keepM_at (p : Pl.Pol) (l : List Pl.Rf) (now : Int) (j : Nat) (hj : j < l.length) : (Pl.keepD p l now).getD j false = keepF p l now (l.getD j default) := by
  rw [keepD_map, List.getD_eq_getElem?_getD, List.getElem?_map, List.getElem?_eq_getElem hj, List.getD_eq_getElem?_getD, List.getElem?_eq_getElem hj]; rfl
theorem more_facts (p q : Pl.Pol) (l : List Pl.Rf) (now : Int) (hp : Pl.polE p = 0) (h0 : p.d ≤ q.d) (h1 : p.w ≤ q.w) (h2 : p.mo ≤ q.mo) (h3 : p.y ≤ q.y) : MoreFacts l now (Pl.keepD p l now) (Pl.keepD q l now) := by
  refine ⟨Pl.keepD_len _ _ _, Pl.keepD_len _ _ _, fun j hj h => ?_, fun j hj h => ?_, fun j hj h => ?_⟩
  · rw [keepM_at _ _ _ _ hj] at h ⊢
    exact keepF_more hp h0 h1 h2 h3 h
  · rw [keepM_at _ _ _ _ hj]
    exact late_kept p now h
  · rw [keepM_at _ _ _ _ hj]
    unfold keepF
    rw [decide_eq_true h, Bool.or_true]
set_option maxRecDepth 100000 in
set_option maxHeartbeats 8000000 in
theorem policyMore_walk (p : Pl.Pol) (m0 m1 m2 m3 : UInt8) (s : Value) (l : List Pl.Rf) (now : Int) (w : World) (hpi : I64 p.d ∧ I64 p.w ∧ I64 p.mo ∧ I64 p.y) (hs : RfsIn w s l) (hnow : I64 now) (hv : VPol w) :
    Calls Tryz.prog 4 #[polV p, .agg #[.int .u8 (m0.toNat : Int), .int .u8 (m1.toNat : Int), .int .u8 (m2.toNat : Int), .int .u8 (m3.toNat : Int)], .agg #[s, .int .i64 now]] w (RetB (fun v _ => v = .bool true) w) := by
  have hal := fun W h => alive_any W h
  have hgr := fun W h => great49_any s l W h
  have hkp := fun p' s' W h1 h2 h3 => keep_in p' l now s' W h1 h2 h3
  have hck := fun W => pcheck_any p W
  obtain ⟨A, c, rfl, hr, hA0, hbig, hfit⟩ := id hs
  have hpv : polV p = .agg #[.int .i64 p.d, .int .i64 p.w, .int .i64 p.mo, .int .i64 p.y] := rfl
  rw [hpv] at hck ⊢
  obtain ⟨n, hn⟩ : ∃ n, l.length = n := ⟨_, rfl⟩
  rw [hn] at hgr hr hs hbig ⊢
  have hnb : n ≤ 140737488355328 := by omega
  obtain ⟨G, hG⟩ : ∃ G, Pl.great49 l = G := ⟨_, rfl⟩
  rw [hG] at hgr
  obtain ⟨E, hE⟩ : ∃ E, Pl.polE p = E := ⟨_, rfl⟩
  rw [hE] at hck
  obtain ⟨a0, ha0⟩ : ∃ a, m0.toNat = a := ⟨_, rfl⟩
  obtain ⟨a1, ha1⟩ : ∃ a, m1.toNat = a := ⟨_, rfl⟩
  obtain ⟨a2, ha2⟩ : ∃ a, m2.toNat = a := ⟨_, rfl⟩
  obtain ⟨a3, ha3⟩ : ∃ a, m3.toNat = a := ⟨_, rfl⟩
  have hu0 : a0 < 256 := by rw [← ha0]; exact m0.toNat_lt
  have hu1 : a1 < 256 := by rw [← ha1]; exact m1.toNat_lt
  have hu2 : a2 < 256 := by rw [← ha2]; exact m2.toNat_lt
  have hu3 : a3 < 256 := by rw [← ha3]; exact m3.toNat_lt
  rw [ha0, ha1, ha2, ha3]
  have HH := Lib.hid (And.intro hal (And.intro hgr (And.intro hkp (And.intro hs (And.intro hfit (And.intro hn (And.intro hG (And.intro hv (And.intro hck hE)))))))))
  clear hal hgr hkp hs hfit hG hv hpv hr hA0 hpi hnow hbig hn hck hE ha0 ha1 ha2 ha3
  go_enter Tryz.func4, Tryz.ntmps4
  go_wp2_with fail
  generalize hV : World.alloc (World.alloc (World.alloc w _) _) _ = V
  have hbV : Below w.heap.size w V := by rw [← hV]; exact (((Below.refl _ _).alloc (Nat.le_refl _) _).alloc (by simp) _).alloc (by simp; omega) _
  have h1 : V.heap[w.heap.size]? = some (.cells #[.int .i64 p.d, .int .i64 p.w, .int .i64 p.mo, .int .i64 p.y] 23 (0, 0)) := by rw [← hV]; exact (Below.heap_alloc _ _ _ (by simp; omega)).trans ((Below.heap_alloc _ _ _ (by simp)).trans (heap_alloc_new w _))
  have h3 : V.heap[w.heap.size + 1]? = some (.cells #[.int .u8 a0, .int .u8 a1, .int .u8 a2, .int .u8 a3] 31 (0, 0)) := by rw [← hV]; exact (Below.heap_alloc _ _ _ (by simp)).trans (heap_alloc_2 w _ _)
  have hsz1 : ∀ o, (w.alloc o).heap.size = w.heap.size + 1 := fun o => by simp
  have h2 : V.heap[w.heap.size + 1 + 1]? = some (.cells #[.slice A n c, .int .i64 now] 34 (0, 0)) := by rw [← hV, ← hsz1 (.cells #[.int .i64 p.d, .int .i64 p.w, .int .i64 p.mo, .int .i64 p.y] 23)]; exact heap_alloc_2 _ _ _
  have hpb := PB.of_rows h1 h2
  clear hV h1 h2 hsz1
  refine (HH.out.1 _ (VPol.keep HH.out.2.2.2.2.2.2.2.1 hbV (Nat.le_refl _))).mono ?_
  rintro e w1 ⟨v, rfl, rfl, hb1⟩
  replace hpb := hpb.below hb1
  replace h3 := (hb1.block _ (blk_lt h3)).trans h3
  replace hbV := hbV.trans (hb1.mono hbV.size)
  clear hb1
  have b0 := hpb.b0
  go_wp2_with fail
  refine (HH.out.2.1 _ (HH.out.2.2.2.1.keep hbV (Nat.le_refl _))).mono ?_
  rintro e w2 ⟨v, rfl, rfl, hb2⟩
  replace hpb := hpb.below hb2
  replace h3 := (hb2.block _ (blk_lt h3)).trans h3
  replace hbV := hbV.trans (hb2.mono hbV.size)
  clear hb2 b0
  cases hGe : G
  rotate_left
  · rw [if_pos rfl]
    clear hpb
    go_wp2_with fail
    go_ret
    exact ⟨_, rfl, rfl, hbV⟩
  rw [if_neg (by simp)]
  have hl50 : l.length ≤ 50 := Pl.great49_few (HH.out.2.2.2.2.2.2.1.trans hGe)
  have hn50 : n ≤ 50 := by rw [← HH.out.2.2.2.2.2.1]; exact hl50
  clear hGe hl50
  have x0 := hpb.c0
  have x1 := hpb.c1
  have x2 := hpb.c2
  have x3 := hpb.c3
  go_wp2_with fail
  refine (HH.out.2.2.2.2.2.2.2.2.1 _).mono ?_
  rintro e w3 ⟨v, rfl, rfl, hb3⟩
  replace hpb := hpb.below hb3
  replace h3 := (hb3.block _ (blk_lt h3)).trans h3
  replace hbV := hbV.trans (hb3.mono hbV.size)
  clear hb3 x0 x1 x2 x3
  by_cases hE0 : E = 0
  rotate_left
  · have hne : ((E : Int) != 0) = true := by rw [bne_iff_ne]; omega
    clear hpb hE0
    go_wp2_with fail
    go_ret
    exact ⟨_, rfl, rfl, hbV⟩
  · subst hE0
    obtain ⟨⟨f0, g0⟩, ⟨f1, g1⟩, ⟨f2, g2⟩, ⟨f3, g3⟩⟩ := polE_zero HH.out.2.2.2.2.2.2.2.2.2
    have v0 : IntKind.i64.wrap (a0 : Int) = (a0 : Int) := IntWalk.i64_in _ (by omega)
    have v1 : IntKind.i64.wrap (a1 : Int) = (a1 : Int) := IntWalk.i64_in _ (by omega)
    have v2 : IntKind.i64.wrap (a2 : Int) = (a2 : Int) := IntWalk.i64_in _ (by omega)
    have v3 : IntKind.i64.wrap (a3 : Int) = (a3 : Int) := IntWalk.i64_in _ (by omega)
    have u0 : IntKind.i64.wrap (p.d + (a0 : Int)) = p.d + (a0 : Int) := IntWalk.i64_in _ (by omega)
    have u1 : IntKind.i64.wrap (p.w + (a1 : Int)) = p.w + (a1 : Int) := IntWalk.i64_in _ (by omega)
    have u2 : IntKind.i64.wrap (p.mo + (a2 : Int)) = p.mo + (a2 : Int) := IntWalk.i64_in _ (by omega)
    have u3 : IntKind.i64.wrap (p.y + (a3 : Int)) = p.y + (a3 : Int) := IntWalk.i64_in _ (by omega)
    have x0 := hpb.c0
    have x1 := hpb.c1
    have x2 := hpb.c2
    have x3 := hpb.c3
    have y0 : w3.cell? ⟨w.heap.size + 1, 0, none⟩ = some (.int .u8 a0) := cell_row w3 _ 0 _ _ h3
    have y1 : w3.cell? ⟨w.heap.size + 1, 1, none⟩ = some (.int .u8 a1) := cell_row w3 _ 1 _ _ h3
    have y2 : w3.cell? ⟨w.heap.size + 1, 2, none⟩ = some (.int .u8 a2) := cell_row w3 _ 2 _ _ h3
    have y3 : w3.cell? ⟨w.heap.size + 1, 3, none⟩ = some (.int .u8 a3) := cell_row w3 _ 3 _ _ h3
    go_upto_region 6 with (fail)
    obtain ⟨q, hq⟩ : ∃ q : Pl.Pol, q = ⟨min 1000 (p.d + (a0 : Int)), min 1000 (p.w + (a1 : Int)), min 1000 (p.mo + (a2 : Int)), min 1000 (p.y + (a3 : Int))⟩ := ⟨_, rfl⟩
    have hd0 : p.d ≤ q.d := by rw [hq]; dsimp only; omega
    have hd1 : p.w ≤ q.w := by rw [hq]; dsimp only; omega
    have hd2 : p.mo ≤ q.mo := by rw [hq]; dsimp only; omega
    have hd3 : p.y ≤ q.y := by rw [hq]; dsimp only; omega
    have hfacts := more_facts p q l now HH.out.2.2.2.2.2.2.2.2.2 hd0 hd1 hd2 hd3
    generalize hV3 : World.alloc w3 _ = V3
    have hqr : V3.heap[w3.heap.size]? = some (.cells #[.int .i64 q.d, .int .i64 q.w, .int .i64 q.mo, .int .i64 q.y] 23 (0, 0)) := by rw [← hV3, hq]; exact heap_alloc_new w3 _
    have hb3 : Below w3.heap.size w3 V3 := by rw [← hV3]; exact (Below.refl _ _).alloc (Nat.le_refl _) _
    replace hpb := hpb.below hb3
    replace hbV := hbV.trans (hb3.mono hbV.size)
    have hp2 : PB2 w.heap.size (w.heap.size + 1 + 1) w3.heap.size p q (.slice A n c) now V3 := ⟨hpb.c0, hpb.c1, hpb.c2, hpb.c3, hpb.b0, hpb.b1, cell_row V3 _ 0 _ _ hqr, cell_row V3 _ 1 _ _ hqr, cell_row V3 _ 2 _ _ hqr, cell_row V3 _ 3 _ _ hqr⟩
    clear hV3 hb3 hqr hpb hd0 hd1 hd2 hd3 hq x0 x1 x2 x3 y0 y1 y2 y3 u0 u1 u2 u3 v0 v1 v2 v3 f0 f1 f2 f3 g0 g1 g2 g3 h3
    generalize w3.heap.size = Bq at hp2 ⊢
    have hk1 := fun W h => HH.out.2.2.1 p (.slice A n c) W (by rw [HH.out.2.2.2.2.2.1]; omega) h HH.out.2.2.2.2.1
    have hk2 := fun W h => HH.out.2.2.1 q (.slice A n c) W (by rw [HH.out.2.2.2.2.2.1]; omega) h HH.out.2.2.2.2.1
    rw [HH.out.2.2.2.2.2.1] at hk1 hk2
    obtain ⟨KA, hKA⟩ : ∃ K, Pl.keepD p l now = K := ⟨_, rfl⟩
    obtain ⟨KB, hKB⟩ : ∃ K, Pl.keepD q l now = K := ⟨_, rfl⟩
    rw [hKA] at hk1 hfacts
    rw [hKB] at hk2 hfacts
    obtain ⟨A', c', e, hr1, -⟩ := HH.out.2.2.2.1.keep hbV (Nat.le_refl _)
    injection e with e1 e2 e3
    subst e1 e3
    rw [HH.out.2.2.2.2.2.1] at hr1
    have HK := Lib.hid (And.intro hk1 (And.intro hk2 hfacts))
    clear hk1 hk2 hfacts hKA hKB e2
    refine wp_region_held_drew (S := (fun w' => PB2 w.heap.size (w.heap.size + 1 + 1) Bq p q (.slice A n c) now w')) (by kernel_rfl) (by exact hp2.below (Below.refl _ _).drew) (fun hHeld => ?_)
    replace hr1 := hr1.drew
    have hbd := hbV.drew
    clear hp2 hbV
    generalize hW1 : V3.drew = W3 at hHeld hbd hr1 ⊢
    clear hW1
    refine wpAnyH_take (i := 0) (v := ?_) rfl (by kernel_rfl) (by kernel_rfl) (by kernel_rfl) (fun _ _ _ h => h) (Or.inl ⟨by kernel_rfl, ?_⟩) hHeld ?_
    rotate_left
    · (intro w' hSw; obtain ⟨hS0, hS1, hS2, hS3, hS4, hS5, hS6, hS7, hS8, hS9⟩ := hSw; go_simp; try with_reducible rfl)
    simp only [Act.put, List.setIfInBounds_toArray, List.set_cons_zero, List.set_cons_succ, List.getElem_toArray, List.getElem_cons_succ, List.getElem_cons_zero]
    refine wpAnyH_take (i := 1) (v := ?_) rfl (by kernel_rfl) (by kernel_rfl) (by kernel_rfl) (fun _ _ _ h => h) (Or.inl ⟨by kernel_rfl, ?_⟩) hHeld ?_
    rotate_left
    · (intro w' hSw; obtain ⟨hS0, hS1, hS2, hS3, hS4, hS5, hS6, hS7, hS8, hS9⟩ := hSw; go_simp; try with_reducible rfl)
    simp only [Act.put, List.setIfInBounds_toArray, List.set_cons_zero, List.set_cons_succ, List.getElem_toArray, List.getElem_cons_succ, List.getElem_cons_zero]
    refine wpAnyH_take (i := 2) (v := ?_) rfl (by kernel_rfl) (by kernel_rfl) (by kernel_rfl) (fun _ _ _ h => h) (Or.inl ⟨by kernel_rfl, ?_⟩) hHeld ?_
    rotate_left
    · (intro w' hSw; obtain ⟨hS0, hS1, hS2, hS3, hS4, hS5, hS6, hS7, hS8, hS9⟩ := hSw; go_simp; try with_reducible rfl)
    simp only [Act.put, List.setIfInBounds_toArray, List.set_cons_zero, List.set_cons_succ, List.getElem_toArray, List.getElem_cons_succ, List.getElem_cons_zero]
    refine wpAnyH_take (i := 3) (v := ?_) rfl (by kernel_rfl) (by kernel_rfl) (by kernel_rfl) (fun _ _ _ h => h) (Or.inl ⟨by kernel_rfl, ?_⟩) hHeld ?_
    rotate_left
    · (intro w' hSw; obtain ⟨hS0, hS1, hS2, hS3, hS4, hS5, hS6, hS7, hS8, hS9⟩ := hSw; go_simp; try with_reducible rfl)
    simp only [Act.put, List.setIfInBounds_toArray, List.set_cons_zero, List.set_cons_succ, List.getElem_toArray, List.getElem_cons_succ, List.getElem_cons_zero]
    refine wpAnyH_take (i := 4) (v := ?_) rfl (by kernel_rfl) (by kernel_rfl) (by kernel_rfl) (fun _ _ _ h => h) (Or.inl ⟨by kernel_rfl, ?_⟩) hHeld ?_
    rotate_left
    · (intro w' hSw; obtain ⟨hS0, hS1, hS2, hS3, hS4, hS5, hS6, hS7, hS8, hS9⟩ := hSw; go_simp; try with_reducible rfl)
    simp only [Act.put, List.setIfInBounds_toArray, List.set_cons_zero, List.set_cons_succ, List.getElem_toArray, List.getElem_cons_succ, List.getElem_cons_zero]
    refine wpAnyH_take (i := 6) (v := ?_) rfl (by kernel_rfl) (by kernel_rfl) (by kernel_rfl) (fun _ _ _ h => h) (Or.inl ⟨by kernel_rfl, ?_⟩) hHeld ?_
    rotate_left
    · (intro w' hSw; obtain ⟨hS0, hS1, hS2, hS3, hS4, hS5, hS6, hS7, hS8, hS9⟩ := hSw; go_simp; try with_reducible rfl)
    simp only [Act.put, List.setIfInBounds_toArray, List.set_cons_zero, List.set_cons_succ, List.getElem_toArray, List.getElem_cons_succ, List.getElem_cons_zero]
    refine wpAnyH_take (i := 7) (v := ?_) rfl (by kernel_rfl) (by kernel_rfl) (by kernel_rfl) (fun _ _ _ h => h) (Or.inl ⟨by kernel_rfl, ?_⟩) hHeld ?_
    rotate_left
    · (intro w' hSw; obtain ⟨hS0, hS1, hS2, hS3, hS4, hS5, hS6, hS7, hS8, hS9⟩ := hSw; go_simp; try with_reducible rfl)
    simp only [Act.put, List.setIfInBounds_toArray, List.set_cons_zero, List.set_cons_succ, List.getElem_toArray, List.getElem_cons_succ, List.getElem_cons_zero]
    refine wpAnyH_take (i := 8) (v := ?_) rfl (by kernel_rfl) (by kernel_rfl) (by kernel_rfl) (fun _ _ _ h => h) (Or.inl ⟨by kernel_rfl, ?_⟩) hHeld ?_
    rotate_left
    · (intro w' hSw; obtain ⟨hS0, hS1, hS2, hS3, hS4, hS5, hS6, hS7, hS8, hS9⟩ := hSw; go_simp; try with_reducible rfl)
    simp only [Act.put, List.setIfInBounds_toArray, List.set_cons_zero, List.set_cons_succ, List.getElem_toArray, List.getElem_cons_succ, List.getElem_cons_zero]
    refine wpAnyH_take (i := 9) (v := ?_) rfl (by kernel_rfl) (by kernel_rfl) (by kernel_rfl) (fun _ _ _ h => h) (Or.inl ⟨by kernel_rfl, ?_⟩) hHeld ?_
    rotate_left
    · (intro w' hSw; obtain ⟨hS0, hS1, hS2, hS3, hS4, hS5, hS6, hS7, hS8, hS9⟩ := hSw; go_simp; try with_reducible rfl)
    simp only [Act.put, List.setIfInBounds_toArray, List.set_cons_zero, List.set_cons_succ, List.getElem_toArray, List.getElem_cons_succ, List.getElem_cons_zero]
    refine wpAnyH_take (i := 10) (v := ?_) rfl (by kernel_rfl) (by kernel_rfl) (by kernel_rfl) (fun _ _ _ h => h) (Or.inl ⟨by kernel_rfl, ?_⟩) hHeld ?_
    rotate_left
    · (intro w' hSw; obtain ⟨hS0, hS1, hS2, hS3, hS4, hS5, hS6, hS7, hS8, hS9⟩ := hSw; go_simp; try with_reducible rfl)
    simp only [Act.put, List.setIfInBounds_toArray, List.set_cons_zero, List.set_cons_succ, List.getElem_toArray, List.getElem_cons_succ, List.getElem_cons_zero]
    refine wpAnyH_ready (rs := [5]) (by kernel_rfl) (by simp) (AllReadyH.cons rfl (fun K hK => ?_) AllReadyH.nil)
    go_simp
    refine (HK.out.1 _ ⟨_, _, rfl, hr1⟩).mono ?_
    rintro e W4 ⟨v, rfl, ⟨ba, rfl, -, hka⟩, hb4⟩
    have hp4 := hHeld.below hb4
    replace hbd := hbd.trans (hb4.mono hbd.size)
    replace hr1 := hr1.below hb4
    clear hHeld hb4
    refine hK.out _ _ (by exact hp4) (fun hHeld => ?_)
    clear hK K
    (try simp only [Act.put, List.setIfInBounds_toArray, List.set_cons_zero, List.set_cons_succ, List.getElem_toArray, List.getElem_cons_succ, List.getElem_cons_zero])
    clear hp4
    refine wpAnyH_ready (rs := [11]) (by kernel_rfl) (by simp) (AllReadyH.cons rfl (fun K hK => ?_) AllReadyH.nil)
    go_simp
    refine (HK.out.2.1 _ ⟨_, _, rfl, hr1⟩).mono ?_
    rintro e W5 ⟨v, rfl, ⟨bb, rfl, -, hkb⟩, hb5⟩
    have hp5 := hHeld.below hb5
    replace hbd := hbd.trans (hb5.mono hbd.size)
    replace hka := (hb5.block _ (blk_lt hka)).trans hka
    clear hHeld hb5 hr1
    refine hK.out _ _ (by exact hp5) (fun hHeld => ?_)
    clear hK K
    (try simp only [Act.put, List.setIfInBounds_toArray, List.set_cons_zero, List.set_cons_succ, List.getElem_toArray, List.getElem_cons_succ, List.getElem_cons_zero])
    clear hp5
    refine wpAnyH_take (i := 12) (v := ?_) rfl (by kernel_rfl) (by kernel_rfl) (by kernel_rfl) (fun _ _ _ h => h) (Or.inl ⟨by kernel_rfl, ?_⟩) hHeld ?_
    rotate_left
    · (intro w' hSw; (try dsimp only at hSw); go_simp; try with_reducible rfl)
    simp only [Act.put, List.setIfInBounds_toArray, List.set_cons_zero, List.set_cons_succ, List.getElem_toArray, List.getElem_cons_succ, List.getElem_cons_zero]
    refine wpAnyH_take (i := 13) (v := ?_) rfl (by kernel_rfl) (by kernel_rfl) (by kernel_rfl) (fun _ _ _ h => h) (Or.inl ⟨by kernel_rfl, ?_⟩) hHeld ?_
    rotate_left
    · (intro w' hSw; (try dsimp only at hSw); go_simp; try with_reducible rfl)
    simp only [Act.put, List.setIfInBounds_toArray, List.set_cons_zero, List.set_cons_succ, List.getElem_toArray, List.getElem_cons_succ, List.getElem_cons_zero]
    refine wpAnyH_done (by kernel_rfl) ?_ _
    have hby : ByBox (w.heap.size + 1 + 1) (.slice A n c) now W5 := ⟨hHeld.b0, hHeld.b1⟩
    have b0 := hby.c0
    clear hHeld
    go_wp2_with fail
    clear b0
    go_loopw [84] (fun iv wq => ∃ j : Nat, j ≤ n ∧ iv = .int .i64 j ∧ wq.heap[ba]? = some (.cells (bools KA).toArray 4 (0, 0)) ∧ wq.heap[bb]? = some (.cells (bools KB).toArray 4 (0, 0)) ∧ ByBox (w.heap.size + 1 + 1) (.slice A n c) now wq ∧ Below w.heap.size w wq) (fun iv _ => n - (intOf iv).toNat)
    case atStart => exact ⟨0, by omega, rfl, hka, hkb, hby, hbd⟩
    case round =>
      clear hka hkb hbd hby
      obtain ⟨j, hj, rfl, hka, hkb, hby, hbd⟩ := hrel
      by_cases hjn : j < n
      · obtain ⟨A', c', e, hr1, -⟩ := HH.out.2.2.2.1.keep hbd (Nat.le_refl _)
        injection e with e1 e2 e3
        subst e1 e3
        rw [HH.out.2.2.2.2.2.1] at hr1
        clear e2
        obtain ⟨b, off, hA, hbw, hrf⟩ := hr1.rf HH.out.2.2.2.2.2.1 hjn
        subst hA
        obtain ⟨x, hx⟩ : ∃ x, l.getD j default = x := ⟨_, rfl⟩
        obtain ⟨c0, c1, c2, c3, c4⟩ := hrf x hx
        obtain ⟨fa, hfa⟩ : ∃ f, KA.getD j false = f := ⟨_, rfl⟩
        obtain ⟨fb, hfb⟩ : ∃ f, KB.getD j false = f := ⟨_, rfl⟩
        have hab : fa = true → fb = true := fun h => by rw [← hfb]; exact HK.out.2.2.ab j (by rw [HH.out.2.2.2.2.2.1]; exact hjn) (by rw [hfa]; exact h)
        have hla : l.all (lateF x) = true → fa = true := fun h => by rw [← hfa]; exact HK.out.2.2.late j (by rw [HH.out.2.2.2.2.2.1]; exact hjn) (by rw [hx]; exact h)
        have hha : now < x.til → fa = true := fun h => by rw [← hfa]; exact HK.out.2.2.held j (by rw [HH.out.2.2.2.2.2.1]; exact hjn) (by rw [hx]; exact h)
        have hlA : KA.length = n := by rw [HK.out.2.2.la]; exact HH.out.2.2.2.2.2.1
        have hlB : KB.length = n := by rw [HK.out.2.2.lb]; exact HH.out.2.2.2.2.2.1
        have j0 : (0 : Int) ≤ (j : Int) := by omega
        have j1 : (j : Int) < (n : Int) := by omega
        have hsz0 := hbd.size
        have HR := Lib.hid (And.intro hka (And.intro hkb (And.intro hby (And.intro hbd (And.intro hab (And.intro hla (And.intro hha (And.intro hlA (And.intro hlB (And.intro hfa hfb))))))))))
        clear hka hkb hby hbd hab hla hha hlA hlB hfa hfb hrf hx hr1 hbw
        obtain ⟨xm, xn, xt, xnm, xtil⟩ := x
        dsimp only at c0 c1 c2 c3 c4 HR
        go_upto_region 12 with (fail)
        generalize hV : World.alloc wr _ = V
        have hz : V.heap[wr.heap.size]? = some (.cells #[.string ⟨xm.toArray⟩, .int .i64 xn, .int .i64 xt, .string ⟨xnm.toArray⟩, .int .i64 xtil] 39 (0, 0)) := by rw [← hV]; exact heap_alloc_new wr _
        have hbV : Below wr.heap.size wr V := by rw [← hV]; exact (Below.refl _ _).alloc (Nat.le_refl _) _
        have hka := (hbV.block _ (blk_lt HR.out.1)).trans HR.out.1
        have hkb := (hbV.block _ (blk_lt HR.out.2.1)).trans HR.out.2.1
        have hby := HR.out.2.2.1.below hbV
        have hbd := HR.out.2.2.2.1.trans (hbV.mono hsz0)
        clear hV hbV c0 c1 c2 c3 c4
        generalize wr.heap.size = Bx at hz ⊢
        have b0 := hby.c0
        go_wp2_with fail
        clear b0
        go_loopw [12, 92] (fun lv iv wq => ∃ k : Nat, k ≤ n ∧ iv = .int .i64 k ∧ lv = .bool ((l.take k).all (lateF ⟨xm, xn, xt, xnm, xtil⟩)) ∧ wq.heap[ba]? = some (.cells (bools KA).toArray 4 (0, 0)) ∧ wq.heap[bb]? = some (.cells (bools KB).toArray 4 (0, 0)) ∧ wq.heap[Bx]? = some (.cells #[.string ⟨xm.toArray⟩, .int .i64 xn, .int .i64 xt, .string ⟨xnm.toArray⟩, .int .i64 xtil] 39 (0, 0)) ∧ ByBox (w.heap.size + 1 + 1) (.slice (some ⟨b, off, none⟩) n c) now wq ∧ Below w.heap.size w wq) (fun _ iv _ => n - (intOf iv).toNat)
        case atStart => exact ⟨0, by omega, rfl, rfl, hka, hkb, hz, hby, hbd⟩
        case round =>
          clear hka hkb hz hby hbd
          obtain ⟨k, hk, rfl, rfl, hka, hkb, hz, hby, hbd⟩ := hrel
          by_cases hkn : k < n
          · obtain ⟨bq, offq, hA, hbw, hrf⟩ := (by
              obtain ⟨A', c', e, hr1, -⟩ := HH.out.2.2.2.1.keep hbd (Nat.le_refl _)
              injection e with e1 e2 e3
              subst e1 e3
              rw [HH.out.2.2.2.2.2.1] at hr1
              exact hr1.rf HH.out.2.2.2.2.2.1 hkn : ∃ bq offq, some (⟨b, off, none⟩ : Addr) = some ⟨bq, offq, none⟩ ∧ _)
            injection hA with hA; injection hA with e1 e2 _
            subst e1 e2
            obtain ⟨y, hy⟩ : ∃ y, l.getD k default = y := ⟨_, rfl⟩
            obtain ⟨d0, d1, d2, d3, d4⟩ := hrf y hy
            have hnx := all_next (lateF ⟨xm, xn, xt, xnm, xtil⟩) l k (by rw [HH.out.2.2.2.2.2.1]; exact hkn)
            rw [hy] at hnx
            obtain ⟨B, hB⟩ : ∃ B, (l.take k).all (lateF ⟨xm, xn, xt, xnm, xtil⟩) = B := ⟨_, rfl⟩
            rw [hB] at hnx ⊢
            have k0 : (0 : Int) ≤ (k : Int) := by omega
            have k1 : (k : Int) < (n : Int) := by omega
            have hszk := hbd.size
            obtain ⟨ym, yn, yt, ynm, ytil⟩ := y
            dsimp only at d0 d1 d2 d3 d4
            have HI := Lib.hid (And.intro hka (And.intro hkb (And.intro hz (And.intro hby (And.intro hbd hnx))))); clear hka hkb hz hby hbd hnx hB hy hrf hbw
            go_upto_region 16 with (fail)
            generalize hV : World.alloc wr _ = V
            have hz2 : V.heap[wr.heap.size]? = some (.cells #[.string ⟨ym.toArray⟩, .int .i64 yn, .int .i64 yt, .string ⟨ynm.toArray⟩, .int .i64 ytil] 39 (0, 0)) := by rw [← hV]; exact heap_alloc_new wr _
            have hbV : Below wr.heap.size wr V := by rw [← hV]; exact (Below.refl _ _).alloc (Nat.le_refl _) _
            have hka := (hbV.block _ (blk_lt HI.out.1)).trans HI.out.1
            have hkb := (hbV.block _ (blk_lt HI.out.2.1)).trans HI.out.2.1
            have hz := (hbV.block _ (blk_lt HI.out.2.2.1)).trans HI.out.2.2.1
            have hby := HI.out.2.2.2.1.below hbV
            have hbd := HI.out.2.2.2.2.1.trans (hbV.mono hszk)
            clear hV hbV d0 d1 d2 d3 d4
            generalize wr.heap.size = Bz at hz2 ⊢
            have e0 : V.cell? ⟨Bx, 0, none⟩ = some (.string ⟨xm.toArray⟩) := cell_row V _ 0 _ _ hz
            have e1 : V.cell? ⟨Bx, 1, none⟩ = some (.int .i64 xn) := cell_row V _ 1 _ _ hz
            have e2 : V.cell? ⟨Bx, 2, none⟩ = some (.int .i64 xt) := cell_row V _ 2 _ _ hz
            have d0 : V.cell? ⟨Bz, 0, none⟩ = some (.string ⟨ym.toArray⟩) := cell_row V _ 0 _ _ hz2
            have d1 : V.cell? ⟨Bz, 1, none⟩ = some (.int .i64 yn) := cell_row V _ 1 _ _ hz2
            have d2 : V.cell? ⟨Bz, 2, none⟩ = some (.int .i64 yt) := cell_row V _ 2 _ _ hz2
            have fin : ∀ b', (B && lateF ⟨xm, xn, xt, xnm, xtil⟩ ⟨ym, yn, yt, ynm, ytil⟩) = b' → (∃ k_1 : Nat, k_1 ≤ n ∧ Value.int .i64 ((k : Int) + 1) = .int .i64 k_1 ∧ Value.bool b' = .bool ((l.take k_1).all (lateF ⟨xm, xn, xt, xnm, xtil⟩)) ∧ V.heap[ba]? = some (.cells (bools KA).toArray 4 (0, 0)) ∧ V.heap[bb]? = some (.cells (bools KB).toArray 4 (0, 0)) ∧ V.heap[Bx]? = some (.cells #[.string ⟨xm.toArray⟩, .int .i64 xn, .int .i64 xt, .string ⟨xnm.toArray⟩, .int .i64 xtil] 39 (0, 0)) ∧ ByBox (w.heap.size + 1 + 1) (.slice (some ⟨b, off, none⟩) n c) now V ∧ Below w.heap.size w V) ∧ n - (intOf (.int .i64 ((k : Int) + 1))).toNat < n - (intOf (.int .i64 (k : Int))).toNat := fun b' hb' =>
              ⟨⟨k + 1, by omega, by rw [Int.natCast_add]; rfl, by rw [HI.out.2.2.2.2.2, hb'], hka, hkb, hz, hby, hbd⟩, by simp [intOf]; omega⟩
            have HF := Lib.hid fin; clear fin hka hkb hz hby hbd hz2
            cases B
            · go_wp2_with fail
              exact HF.out _ rfl
            · by_cases hm : ym = xm
              · have q1 : (ym == xm) = true := by rw [hm]; simp
                have HM := Lib.hid hm; clear hm
                by_cases ht : yt < xt
                · go_wp2_with fail
                  exact HF.out _ (by unfold lateF; simp [ht])
                · by_cases ht2 : yt = xt
                  · have q2 : (yt == xt) = true := by rw [ht2]; simp
                    have HT := Lib.hid ht2; clear ht2
                    by_cases hn2 : yn ≤ xn
                    · go_wp2_with fail
                      exact HF.out _ (by unfold lateF; simp [HT.out, hn2])
                    · go_wp2_with fail
                      exact HF.out _ (by unfold lateF; simp [HM.out, HT.out, hn2])
                  · have q2 : (yt == xt) = false := beq_eq_false_iff_ne.2 ht2
                    have HT := Lib.hid ht2; clear ht2
                    go_wp2_with fail
                    exact HF.out _ (by unfold lateF; simp [HM.out, HT.out, ht])
              · have q1 : (ym == xm) = false := beq_eq_false_iff_ne.2 hm
                have HM := Lib.hid hm; clear hm
                go_wp2_with fail
                exact HF.out _ (by unfold lateF; simp [HM.out])
          · obtain rfl : k = n := by omega
            have htk : l.take k = l := List.take_of_length_le (by rw [HH.out.2.2.2.2.2.1]; exact Nat.le_refl _)
            rw [htk]
            obtain ⟨L, hL⟩ : ∃ L, l.all (lateF ⟨xm, xn, xt, xnm, xtil⟩) = L := ⟨_, rfl⟩
            rw [hL]
            have ca : wr.cell? ⟨ba, j, none⟩ = some (.bool fa) := by rw [cell_row wr ba j _ _ hka, bools_get KA j (by rw [HR.out.2.2.2.2.2.2.2.1]; exact hjn), HR.out.2.2.2.2.2.2.2.2.2.1]
            have cb : wr.cell? ⟨bb, j, none⟩ = some (.bool fb) := by rw [cell_row wr bb j _ _ hkb, bools_get KB j (by rw [HR.out.2.2.2.2.2.2.2.2.1]; exact hjn), HR.out.2.2.2.2.2.2.2.2.2.2]
            have e4 : wr.cell? ⟨Bx, 4, none⟩ = some (.int .i64 xtil) := cell_row wr _ 4 _ _ hz
            have b1 := hby.c1
            have hab := HR.out.2.2.2.2.1
            have hla := HR.out.2.2.2.2.2.1
            have hha := HR.out.2.2.2.2.2.2.1
            rw [hL] at hla
            have fin : (∃ k_1 : Nat, k_1 ≤ k ∧ Value.int .i64 ((j : Int) + 1) = .int .i64 k_1 ∧ wr.heap[ba]? = some (.cells (bools KA).toArray 4 (0, 0)) ∧ wr.heap[bb]? = some (.cells (bools KB).toArray 4 (0, 0)) ∧ ByBox (w.heap.size + 1 + 1) (.slice (some ⟨b, off, none⟩) k c) now wr ∧ Below w.heap.size w wr) ∧ k - (intOf (.int .i64 ((j : Int) + 1))).toNat < k - (intOf (.int .i64 (j : Int))).toNat :=
              ⟨⟨j + 1, by omega, by rw [Int.natCast_add]; rfl, hka, hkb, hby, hbd⟩, by simp [intOf]; omega⟩
            have HF := Lib.hid fin; clear fin hka hkb hz hby hbd htk hL
            cases fa
            · have hLf : L = false := by cases L with | false => rfl | true => exact absurd (hla rfl) (by simp)
              have hxt : ¬ now < xtil := fun h => absurd (hha h) (by simp)
              subst hLf
              clear hab hla hha
              go_wp2_with fail
              exact HF.out
            · have hfb : fb = true := hab rfl
              subst hfb
              clear hab hla hha
              by_cases hxt : now < xtil
              · cases L <;> go_wp2_with fail
                all_goals exact HF.out
              · cases L <;> go_wp2_with fail
                all_goals exact HF.out
      · obtain rfl : j = n := by omega
        go_wp2_with fail
        go_ret
        exact ⟨_, rfl, rfl, hbd⟩
-- FRAME
set_option maxRecDepth 100000 in
theorem policyMore_lifted (os : Os) (started : os.Started) (H : Type) (enc : TypeId × Value → H) :
    ReturnsInHanded {} Tryz.checked os 4 .any (fun w args => (Rows.policyMoreSpec.pre enc Tryz.prog Tryz.f4 [] false w args ∧ laidMetH Tryz.prog tabs7 w) ∧ sizedMet enc Tryz.prog Tryz.f4 (OpenSpec.ofChange Rows.policyMoreSpec) false w args) (Rows.policyMoreSpec.post enc Tryz.prog Tryz.f4 false true false false) := by
  refine handed_and_shaped (C := Tryz.checked) (X := fun w _ => laidMetH Tryz.prog tabs7 w) (fun _ _ _ hh h => h.of_heap hh) own started (by kernel_rfl) Tryz.func4
    (ChangeSpec.witness_shaped (enc := enc) (C := Tryz.checked) (os := os) (X := fun w _ => laidMetH Tryz.prog tabs7 w) false (World.laidAll Tryz.prog os tabs7) #[.agg #[.int .i64 0, .int .i64 0, .int .i64 0, .int .i64 0], .agg #[.int .u8 0, .int .u8 0, .int .u8 0, .int .u8 0], .agg #[.slice none 0 0, .int .i64 0]] 8 (World.laidAll_os _ _ _) (door_shaped7 os) (by kernel_rfl) (by kernel_rfl) (by kernel_rfl) (door_met7 os _)) ?_
  intro W base args ds gs before hval0 hW hcnd hsz0 hL hsh _
  have hvars := vpol_of7 hL hsh
  have hval : ∀ (j : Nat) t v, Tryz.f4.params[j]? = some t → args[j]? = some v → Value.okWide Tryz.prog W .any base t v := hval0
  have hW' := hW
  obtain ⟨p, q, hA0, hV, rfl, hfz, hnd⟩ := hW
  have hA : DataW.TrodAll enc Tryz.prog W 0 (fun _ => true) true Tryz.f4.params.toList args.toList ds p := hA0
  have hsz : (DataW.weightsEach Tryz.prog (Tryz.f4.params.toList ++ Rows.policyMoreSpec.plain.varTypes Tryz.prog) (ds ++ gs)).all (· ≤ reachBytes) = true := hsz0
  rw [Tryz.params4] at hA hval hsz
  obtain ⟨v0, vs0, d0, ds0, p0, q0, hargs, rfl, rfl, h0, r0⟩ := trodAll_cons hA
  obtain ⟨v1, vs1, d1, ds1, p1, q1, rfl, rfl, rfl, h1, r1⟩ := trodAll_cons r0
  obtain ⟨v2, vs2, d2, ds2, p2, q2, rfl, rfl, rfl, h2, r2⟩ := trodAll_cons r1
  obtain ⟨rfl, rfl, rfl⟩ := trodAll_nil r2
  obtain rfl : args = #[v0, v1, v2] := by cases args; simp_all
  obtain ⟨rfl, rfl⟩ := trodVars_none hV
  have k0 := h0
  have lt0 : ∀ x ∈ p0, x.block < W.heap.size := by obtain ⟨m, hm⟩ := k0; exact DataW.trod_lt m _ _ _ hm
  have hz0 : ∀ m ∈ d0.weights Tryz.prog 23, m ≤ reachBytes := fun m hm => by
    have h1 := List.all_eq_true.1 hsz m (DataW.weights_mem_each (j := 0) rfl rfl m hm)
    simpa using h1
  obtain ⟨q0, rfl, eA0⟩ := open_pol (hval 0 23 v0 rfl rfl) h0 hz0
  have k1 := h1
  have lt1 : ∀ x ∈ p1, x.block < W.heap.size := by obtain ⟨m, hm⟩ := k1; exact DataW.trod_lt m _ _ _ hm
  have hz1 : ∀ m ∈ d1.weights Tryz.prog 31, m ≤ reachBytes := fun m hm => by
    have h1 := List.all_eq_true.1 hsz m (DataW.weights_mem_each (j := 1) rfl rfl m hm)
    simpa using h1
  obtain ⟨a1, b1, c1, e1, rfl⟩ := open_four (hval 1 31 v1 rfl rfl) h1 hz1
  have k2 := h2
  have lt2 : ∀ x ∈ p2, x.block < W.heap.size := by obtain ⟨m, hm⟩ := k2; exact DataW.trod_lt m _ _ _ hm
  have hz2 : ∀ m ∈ d2.weights Tryz.prog 34, m ≤ reachBytes := fun m hm => by
    have h1 := List.all_eq_true.1 hsz m (DataW.weights_mem_each (j := 2) rfl rfl m hm)
    simpa using h1
  obtain ⟨s2, l2, n2, rfl, eA2, eB2⟩ := open_by (hval 2 34 v2 rfl rfl) h2 hz2
  clear hA0 hval0 hsz0
  refine (policyMore_walk q0 a1 b1 c1 e1 s2 l2 n2 W eA0  eA2 eB2 hvars).mono fun e W' ⟨v, he, hv, bel⟩ => ?_
  subst he hv
  exact ⟨_, rfl, _, _, _, [], _, [], hW', trodAll_mk1 (shut_bool Tryz.underlying4 _), (trodAll_cons_mk (Below.trod laidOut (by kernel_rfl) (of_decide_eq_true (by kernel_rfl)) k0 bel lt0) (trodAll_cons_mk (Below.trod laidOut (by kernel_rfl) (of_decide_eq_true (by kernel_rfl)) k1 bel lt1) (trodAll_cons_mk (Below.trod laidOut (by kernel_rfl) (of_decide_eq_true (by kernel_rfl)) k2 bel lt2) trodAll_mk0))), rfl, bel.frame _, fun h => by cases h⟩

theorem policyMore_row : Rows.PolicyMoreSaid :=
  OpenClaim.holds_of_wide 4 Tryz.f4 rfl rfl rfl rfl rfl rfl rfl ⟨rfl, rfl, rfl, rfl, rfl⟩ rfl rfl rfl rfl rfl (by kernel_rfl) Tryz.func4 (by kernel_rfl)
    (of_decide_eq_true (by kernel_rfl)) (by unfold Func.isWrapper; first | (rw [if_pos (by decide +kernel)]; kernel_rfl) | (rw [if_neg (by decide +kernel)]; exact ⟨rfl, rfl⟩))
    (fun os started H enc _ => policyMore_lifted os started H enc)

theorem policyMore_holds : Rows.PolicyMoreCardSaid :=
  Claim7.holds_tied_plain_at .later [] [.data, .data, .data, .data, .sentinel, .sentinel, .pinned] true (true, "02b003ade427d62ed0908f33fa3ad860fd25ad3502c2ef17bff12e515b4c93bc") true
    policyMore_row (fun _ h => by cases h) (by kernel_rfl) (fun _ h => by cases h) policyMore_row_tie rfl ⟨rfl, rfl⟩ (by kernel_rfl) rfl
    (fun f fn hf hfn => by
      obtain rfl : f = 4 := Option.some.inj ((show Tryz.prog.funcNamed "hibernacle/hibernaclelaw49.PolicyMore" = some 4 by kernel_rfl).symm.trans hf) |>.symm
      obtain rfl : fn = Tryz.f4 := (Option.some.inj (Tryz.func4.symm.trans hfn)).symm
      exact ⟨by kernel_rfl, fun j t ht => by
        rw [Tryz.params4] at ht
        rcases j with _ | _ | _ | _ | j
        all_goals first
          | (simp at ht; done)
          | (have h3 := Option.some.inj ht; subst h3; exact (show Tryz.prog.wantsStandIn _ = false by kernel_rfl))⟩)
    (by kernel_rfl)
#print axioms policyMore_holds
end Go.Proofs.YtmncgnmgdkdhaaaGreatDoor
