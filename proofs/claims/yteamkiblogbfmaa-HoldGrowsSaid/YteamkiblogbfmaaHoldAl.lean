/- Law 50's alike, of two roots that are the same but for their snapshots. -/
import Derived.Test.YteamkiblogbfmaaHoldRf
import Derived.Test.YteamkiblogbfmaaDayW4
import Derived.Stop.BytesEq
import Derived.Deep.RegionHeld3
import Derived.Deep.MidRow
namespace Go.Proofs.Yteamkiblogbfmaa
open Go.RowKit
set_option linter.unusedVariables false
set_option linter.unusedSimpArgs false
set_option maxRecDepth 100000 in
theorem pol_eq (a b c d : Int) (w : World) : (Op.equalIn 10000 25 (.agg #[.int .i64 a, .int .i64 b, .int .i64 c, .int .i64 d]) (.agg #[.int .i64 a, .int .i64 b, .int .i64 c, .int .i64 d])).run Try.prog w = .ok true w := by
  rw [run_equalIn_struct w 9999 25 _ _ (by kernel_rfl) (by kernel_rfl)]
  simp only [Program.fieldsOf, Try.underlying25]
  have ei : ∀ (x : Int) (W : World), (Op.equalIn 9999 3 (.int .i64 x) (.int .i64 x)).run Try.prog W = .ok true W := by
    intro x W
    rw [run_equalIn_int W 9998 3 _ _ _ _ Try.underlying3]; simp
  simp [Op.eqFields, part, isAgg, run_underlying Try.underlying3, Sem.run_bind, ei]
set_option maxRecDepth 100000 in
theorem plc_eq (x : Pl.Plc) (w : World) : (Op.equalIn 10000 61 (.agg #[.string ⟨x.nm.toArray⟩, .int .i64 x.a, .int .i64 x.l]) (.agg #[.string ⟨x.nm.toArray⟩, .int .i64 x.a, .int .i64 x.l])).run Try.prog w = .ok true w := by
  rw [run_equalIn_struct w 9999 61 _ _ (by kernel_rfl) (by kernel_rfl)]
  simp only [Program.fieldsOf, Try.underlying61]
  have ei : ∀ (x : Int) (W : World), (Op.equalIn 9999 3 (.int .i64 x) (.int .i64 x)).run Try.prog W = .ok true W := by
    intro x W
    rw [run_equalIn_int W 9998 3 _ _ _ _ Try.underlying3]; simp
  have es : ∀ (l : List UInt8) (W : World), (Op.equalIn 9999 9 (.string ⟨l.toArray⟩) (.string ⟨l.toArray⟩)).run Try.prog W = .ok true W := by
    intro l W
    rw [run_equalIn_string W 9998 9 _ _ Try.underlying9]
    simp
  simp [Op.eqFields, part, isAgg, run_underlying Try.underlying3, run_underlying Try.underlying9, Sem.run_bind, ei, es]
set_option maxRecDepth 100000 in
theorem cha_eq (x : Pl.Cha) (hk : x.key.length = 32) (w : World) : (Op.equalIn 10000 56 (.agg (chC x).toArray) (.agg (chC x).toArray)).run Try.prog w = .ok true w := by
  rw [run_equalIn_struct w 9999 56 _ _ (by kernel_rfl) (by kernel_rfl)]
  simp only [Program.fieldsOf, Try.underlying56]
  have ei : ∀ (x : Int) (W : World), (Op.equalIn 9999 47 (.int .u64 x) (.int .u64 x)).run Try.prog W = .ok true W := by
    intro x W
    rw [run_equalIn_int W 9998 47 _ _ _ _ Try.underlying47]; simp
  have es : ∀ (l : List UInt8) (W : World), (Op.equalIn 9999 9 (.string ⟨l.toArray⟩) (.string ⟨l.toArray⟩)).run Try.prog W = .ok true W := by
    intro l W
    rw [run_equalIn_string W 9998 9 _ _ Try.underlying9]
    simp
  have hz : ∀ W, (sizeOf 5).run Try.prog W = .ok 1 W := Try.sizeOf5
  have ek : ∀ W : World, (Op.equalIn 9999 54 (.agg (x.key.map Extern.Stop.cell).toArray) (.agg (x.key.map Extern.Stop.cell).toArray)).run Try.prog W = .ok true W := by
    intro W
    rw [run_equalIn_bytes W 9997 54 5 32 Try.underlying54 Try.underlying5 hz x.key x.key hk hk]
    simp
  have hp : ∀ W : World, (part 54 (chC x).toArray 2).run Try.prog W = .ok (.agg (x.key.map Extern.Stop.cell).toArray) W := by
    intro W
    have h32 : (sizeOf 54).run Try.prog W = .ok 32 W := Try.sizeOf54 W
    have hx : List.take 32 (List.drop 2 (chC x)) = List.map Extern.Stop.cell x.key := by
      simp only [chC, List.cons_append, List.nil_append, List.drop_succ_cons, List.drop_zero]
      exact List.take_of_length_le (by simp [hk])
    simp [part, isAgg, run_underlying Try.underlying54, Sem.run_bind, h32, hx]
  have hp0 : ∀ W : World, (part 9 (chC x).toArray 0).run Try.prog W = .ok (.string ⟨x.m.toArray⟩) W := by
    intro W
    simp [part, isAgg, run_underlying Try.underlying9, Sem.run_bind, chC]
  have hp1 : ∀ W : World, (part 47 (chC x).toArray 1).run Try.prog W = .ok (.int .u64 x.n) W := by
    intro W
    simp [part, isAgg, run_underlying Try.underlying47, Sem.run_bind, chC]
  simp [Op.eqFields, Sem.run_bind, ei, es, ek, hp, hp0, hp1]
theorem chCs_at (l : List Pl.Cha) (hk : ∀ x ∈ l, x.key.length = 32) {w : World} {b off n : Nat} (h : Rd w 34 (some ⟨b, off, none⟩) n (chCs l)) {j : Nat} (hj : j < l.length) (hn : l.length = n) : w.rangeAt b (off + j * 34) (chC l[j]) := by
  have h34 : ∀ x ∈ l, (chC x).length = 34 := fun x hx => by simp [chC, hk x hx]
  obtain ⟨b', off', e, -, hc⟩ := h.2 (by omega)
  injection e with e
  injection e with e1 e2
  subst e1 e2
  intro q v hq
  have hq34 : q < 34 := by
    have := (List.getElem?_eq_some_iff.1 hq).1
    rw [h34 _ (List.getElem_mem _)] at this
    exact this
  have hg := flat_get chC 34 l h34 j q hj hq34
  have hlen := h.len
  rw [Nat.add_assoc, hc (j * 34 + q) (by rw [hlen]; omega)]
  show (l.flatMap chC)[j * 34 + q]? = some v
  rw [hg, hq]
theorem info_cha1 : (Try.prog.info? 56).map (·.size) = some 34 := by kernel_rfl
set_option maxRecDepth 100000 in
set_option maxHeartbeats 4000000 in
theorem alike_any (R : Pl.Rt) (l' : List Pl.Rf) (s p c s' p' c' : Value) (w : World) (hok : RtOk R) (h : RtAt w R s p c) (h' : RtAt w { R with l := l' } s' p' c') : Calls Try.prog 15 #[rtV R s p c, rtV R s' p' c'] w (RetB (fun v _ => v = .bool true) w) := by
  obtain ⟨A0, k0, rfl, -, -⟩ := h.s
  obtain ⟨B0, m0, rfl, -, -⟩ := h'.s
  obtain ⟨sv, hsl, ⟨A1, k1, rfl, hp, -⟩, hpl⟩ := h.p
  obtain ⟨sv', hsl', ⟨B1, m1, rfl, hp', -⟩, hpl'⟩ := h'.p
  obtain ⟨A2, k2, rfl, hc, -⟩ := h.c
  obtain ⟨B2, m2, rfl, hc', -⟩ := h'.c
  have l1 := hok.pk
  have l2 := hok.ch
  have lp := hok.pl
  have lk := hok.key
  simp only at hp' hc' hsl' hpl' ⊢
  obtain ⟨N0, hN0⟩ : ∃ N, N = R.l.length := ⟨_, rfl⟩
  obtain ⟨N1, hN1⟩ : ∃ N, N = R.pk.length := ⟨_, rfl⟩
  obtain ⟨N2, hN2⟩ : ∃ N, N = R.ch.length := ⟨_, rfl⟩
  rw [← hN1] at hp hp' hsl hsl' l1 ⊢
  rw [← hN2] at hc hc' l2 ⊢
  have hpe := fun W => pol_eq R.p.d R.p.w R.p.mo R.p.y W
  obtain ⟨r0, hr0⟩ : ∃ x, x = R.n := ⟨_, rfl⟩
  obtain ⟨r1, hr1⟩ : ∃ x, x = R.now := ⟨_, rfl⟩
  obtain ⟨r2, hr2⟩ : ∃ x, x = R.p.d := ⟨_, rfl⟩
  obtain ⟨r3, hr3⟩ : ∃ x, x = R.p.w := ⟨_, rfl⟩
  obtain ⟨r4, hr4⟩ : ∃ x, x = R.p.mo := ⟨_, rfl⟩
  obtain ⟨r5, hr5⟩ : ∃ x, x = R.p.y := ⟨_, rfl⟩
  unfold rtV
  rw [← hr0, ← hr1, ← hr2, ← hr3, ← hr4, ← hr5]
  rw [← hr2, ← hr3, ← hr4, ← hr5] at hpe
  have HH := Lib.hid (And.intro hp (And.intro hp' (And.intro hpl (And.intro hpl' (And.intro hc (And.intro hc' (And.intro hN1 (And.intro hN2 (And.intro lp (And.intro lk (And.intro hsl hsl')))))))))))
  clear hp hp' hpl hpl' hc hc' hN0 hN1 hN2 lp lk hsl hsl' hr0 hr1 hr2 hr3 hr4 hr5 h h' hok
  go_enter Try.func15, Try.ntmps15
  go_upto_region 1 with (fail)
  generalize hV : World.alloc (World.alloc w _) _ = V
  have hbV : Below w.heap.size w V := by rw [← hV]; exact ((Below.refl _ _).alloc (Nat.le_refl _) _).alloc (by simp) _
  have hx : V.heap[w.heap.size]? = some (.cells #[.int .i64 r0, .int .i64 r1, .slice A0 R.l.length k0, .slice A1 N1 k1, .int .i64 r2, .int .i64 r3, .int .i64 r4, .int .i64 r5, .slice A2 N2 k2] 28 (0, 0)) := by rw [← hV]; exact (Below.heap_alloc _ _ _ (by simp)).trans (heap_alloc_new w _)
  have hz : V.heap[w.heap.size + 1]? = some (.cells #[.int .i64 r0, .int .i64 r1, .slice B0 l'.length m0, .slice B1 N1 m1, .int .i64 r2, .int .i64 r3, .int .i64 r4, .int .i64 r5, .slice B2 N2 m2] 28 (0, 0)) := by rw [← hV]; exact heap_alloc_2 w _ _
  clear hV
  have x0 : V.cell? ⟨w.heap.size, 0, none⟩ = some (.int .i64 r0) := cell_row V _ 0 _ _ hx
  have x1 : V.cell? ⟨w.heap.size, 1, none⟩ = some (.int .i64 r1) := cell_row V _ 1 _ _ hx
  have x3 : V.cell? ⟨w.heap.size, 3, none⟩ = some (.slice A1 N1 k1) := cell_row V _ 3 _ _ hx
  have x4 : V.cell? ⟨w.heap.size, 4, none⟩ = some (.int .i64 r2) := cell_row V _ 4 _ _ hx
  have x5 : V.cell? ⟨w.heap.size, 5, none⟩ = some (.int .i64 r3) := cell_row V _ 5 _ _ hx
  have x6 : V.cell? ⟨w.heap.size, 6, none⟩ = some (.int .i64 r4) := cell_row V _ 6 _ _ hx
  have x7 : V.cell? ⟨w.heap.size, 7, none⟩ = some (.int .i64 r5) := cell_row V _ 7 _ _ hx
  have x8 : V.cell? ⟨w.heap.size, 8, none⟩ = some (.slice A2 N2 k2) := cell_row V _ 8 _ _ hx
  have z0 : V.cell? ⟨w.heap.size + 1, 0, none⟩ = some (.int .i64 r0) := cell_row V _ 0 _ _ hz
  have z1 : V.cell? ⟨w.heap.size + 1, 1, none⟩ = some (.int .i64 r1) := cell_row V _ 1 _ _ hz
  have z3 : V.cell? ⟨w.heap.size + 1, 3, none⟩ = some (.slice B1 N1 m1) := cell_row V _ 3 _ _ hz
  have z4 : V.cell? ⟨w.heap.size + 1, 4, none⟩ = some (.int .i64 r2) := cell_row V _ 4 _ _ hz
  have z5 : V.cell? ⟨w.heap.size + 1, 5, none⟩ = some (.int .i64 r3) := cell_row V _ 5 _ _ hz
  have z6 : V.cell? ⟨w.heap.size + 1, 6, none⟩ = some (.int .i64 r4) := cell_row V _ 6 _ _ hz
  have z7 : V.cell? ⟨w.heap.size + 1, 7, none⟩ = some (.int .i64 r5) := cell_row V _ 7 _ _ hz
  have z8 : V.cell? ⟨w.heap.size + 1, 8, none⟩ = some (.slice B2 N2 m2) := cell_row V _ 8 _ _ hz
  clear hx hz
  have HB := Lib.hid hbV; clear hbV
  go_wp2_with fail
  clear x0 x1 x4 x5 x6 x7 z0 z1 z4 z5 z6 z7
  go_loopw [5] (fun i wr => ∃ (j k : Nat), j ≤ N2 ∧ i = .int .i64 (j : Nat) ∧ wr = V.drewN k) (fun i _ => N2 - (intOf i).toNat)
  case atStart => exact ⟨0, 0, by omega, rfl, rfl⟩
  case round =>
    obtain ⟨j, k, hj, rfl, hwr⟩ := hrel
    have y8 : wr.cell? ⟨w.heap.size, 8, none⟩ = some (.slice A2 N2 k2) := by rw [hwr]; exact x8
    have u8 : wr.cell? ⟨w.heap.size + 1, 8, none⟩ = some (.slice B2 N2 m2) := by rw [hwr]; exact z8
    by_cases hjn : j < N2
    · have hjl : j < R.ch.length := by rw [← HH.out.2.2.2.2.2.2.2.1]; exact hjn
      have hrc := (HH.out.2.2.2.2.1.below HB.out).drewN k
      have hrc' := (HH.out.2.2.2.2.2.1.below HB.out).drewN k
      rw [← hwr] at hrc hrc'
      obtain ⟨b, off, rfl, hbl, -⟩ := hrc.2 (by omega)
      obtain ⟨b', off', rfl, hbl', -⟩ := hrc'.2 (by omega)
      have g1 := chCs_at R.ch HH.out.2.2.2.2.2.2.2.2.2.1 hrc hjl HH.out.2.2.2.2.2.2.2.1.symm
      have g2 := chCs_at R.ch HH.out.2.2.2.2.2.2.2.2.2.1 hrc' hjl HH.out.2.2.2.2.2.2.2.1.symm
      have he := fun W => cha_eq R.ch[j] (HH.out.2.2.2.2.2.2.2.2.2.1 _ (List.getElem_mem _)) W
      have h34 : (chC R.ch[j]).length = 34 := by simp [chC, HH.out.2.2.2.2.2.2.2.2.2.1 _ (List.getElem_mem hjl)]
      obtain ⟨X, hX⟩ : ∃ X, chC R.ch[j] = X := ⟨_, rfl⟩
      rw [hX] at g1 g2 he h34
      have hif : (Try.prog.info? 56).map (·.size) = some X.length := by rw [h34]; exact info_cha1
      have hj1 : (0 : Int) ≤ (j : Int) := by omega
      have hj2 : (j : Int) < (N2 : Int) := by omega
      have HW := Lib.hid (And.intro hwr hX); clear hwr hX hrc hrc' h34
      go_wp2_with fail
      refine wp_region_held_drew (S := (fun w' => w'.cell? ⟨w.heap.size, 8, none⟩ = some (.slice (some ⟨b, off, none⟩) N2 k2) ∧ w'.cell? ⟨w.heap.size + 1, 8, none⟩ = some (.slice (some ⟨b', off', none⟩) N2 m2) ∧ w'.rangeAt b (off + j * 34) X ∧ w'.rangeAt b' (off' + j * 34) X)) (by kernel_rfl) (by exact ⟨y8, u8, g1, g2⟩) (fun hHeld => ?_)
      refine wpAnyH_take (i := 0) (v := ?_) rfl (by kernel_rfl) (by kernel_rfl) (by kernel_rfl) (fun _ _ _ h => h) (Or.inl ⟨by kernel_rfl, ?_⟩) hHeld ?_
      rotate_left
      · (intro w' hSw; obtain ⟨hS0, hS1, hS2, hS3⟩ := hSw; go_simp; try with_reducible rfl)
      simp only [Act.put, List.setIfInBounds_toArray, List.set_cons_zero, List.set_cons_succ, List.getElem_toArray, List.getElem_cons_succ, List.getElem_cons_zero]
      refine wpAnyH_take (i := 1) (v := ?_) rfl (by kernel_rfl) (by kernel_rfl) (by kernel_rfl) (fun _ _ _ h => h) (Or.inl ⟨by kernel_rfl, ?_⟩) hHeld ?_
      rotate_left
      · (intro w' hSw; obtain ⟨hS0, hS1, hS2, hS3⟩ := hSw; go_simp; try with_reducible rfl)
      simp only [Act.put, List.setIfInBounds_toArray, List.set_cons_zero, List.set_cons_succ, List.getElem_toArray, List.getElem_cons_succ, List.getElem_cons_zero]
      refine wpAnyH_take (i := 2) (v := ?_) rfl (by kernel_rfl) (by kernel_rfl) (by kernel_rfl) (fun _ _ _ h => h) (Or.inl ⟨by kernel_rfl, ?_⟩) hHeld ?_
      rotate_left
      · (intro w' hSw; obtain ⟨hS0, hS1, hS2, hS3⟩ := hSw; go_simp; try with_reducible rfl)
      simp only [Act.put, List.setIfInBounds_toArray, List.set_cons_zero, List.set_cons_succ, List.getElem_toArray, List.getElem_cons_succ, List.getElem_cons_zero]
      refine wpAnyH_take (i := 3) (v := ?_) rfl (by kernel_rfl) (by kernel_rfl) (by kernel_rfl) (fun _ _ _ h => h) (Or.inl ⟨by kernel_rfl, ?_⟩) hHeld ?_
      rotate_left
      · (intro w' hSw; obtain ⟨hS0, hS1, hS2, hS3⟩ := hSw; go_simp; try with_reducible rfl)
      simp only [Act.put, List.setIfInBounds_toArray, List.set_cons_zero, List.set_cons_succ, List.getElem_toArray, List.getElem_cons_succ, List.getElem_cons_zero]
      refine wpAnyH_take (i := 4) (v := .agg (X).toArray) rfl (by kernel_rfl) (by kernel_rfl) (by kernel_rfl) (fun _ _ _ h => h) (yieldsIf_load_mid (by kernel_rfl) 56 _ rfl (b) (off + j * 34) rfl X _ (fun _ h => h.2.2.1) Try.underlying56 rfl hif) hHeld ?_
      simp only [Act.put, List.setIfInBounds_toArray, List.set_cons_zero, List.set_cons_succ, List.getElem_toArray, List.getElem_cons_succ, List.getElem_cons_zero]
      refine wpAnyH_take (i := 5) (v := ?_) rfl (by kernel_rfl) (by kernel_rfl) (by kernel_rfl) (fun _ _ _ h => h) (Or.inl ⟨by kernel_rfl, ?_⟩) hHeld ?_
      rotate_left
      · (intro w' hSw; obtain ⟨hS0, hS1, hS2, hS3⟩ := hSw; go_simp; try with_reducible rfl)
      simp only [Act.put, List.setIfInBounds_toArray, List.set_cons_zero, List.set_cons_succ, List.getElem_toArray, List.getElem_cons_succ, List.getElem_cons_zero]
      refine wpAnyH_take (i := 6) (v := ?_) rfl (by kernel_rfl) (by kernel_rfl) (by kernel_rfl) (fun _ _ _ h => h) (Or.inl ⟨by kernel_rfl, ?_⟩) hHeld ?_
      rotate_left
      · (intro w' hSw; obtain ⟨hS0, hS1, hS2, hS3⟩ := hSw; go_simp; try with_reducible rfl)
      simp only [Act.put, List.setIfInBounds_toArray, List.set_cons_zero, List.set_cons_succ, List.getElem_toArray, List.getElem_cons_succ, List.getElem_cons_zero]
      refine wpAnyH_take (i := 7) (v := ?_) rfl (by kernel_rfl) (by kernel_rfl) (by kernel_rfl) (fun _ _ _ h => h) (Or.inl ⟨by kernel_rfl, ?_⟩) hHeld ?_
      rotate_left
      · (intro w' hSw; obtain ⟨hS0, hS1, hS2, hS3⟩ := hSw; go_simp; try with_reducible rfl)
      simp only [Act.put, List.setIfInBounds_toArray, List.set_cons_zero, List.set_cons_succ, List.getElem_toArray, List.getElem_cons_succ, List.getElem_cons_zero]
      refine wpAnyH_take (i := 8) (v := ?_) rfl (by kernel_rfl) (by kernel_rfl) (by kernel_rfl) (fun _ _ _ h => h) (Or.inl ⟨by kernel_rfl, ?_⟩) hHeld ?_
      rotate_left
      · (intro w' hSw; obtain ⟨hS0, hS1, hS2, hS3⟩ := hSw; go_simp; try with_reducible rfl)
      simp only [Act.put, List.setIfInBounds_toArray, List.set_cons_zero, List.set_cons_succ, List.getElem_toArray, List.getElem_cons_succ, List.getElem_cons_zero]
      refine wpAnyH_take (i := 9) (v := .agg (X).toArray) rfl (by kernel_rfl) (by kernel_rfl) (by kernel_rfl) (fun _ _ _ h => h) (yieldsIf_load_mid (by kernel_rfl) 56 _ rfl (b') (off' + j * 34) rfl X _ (fun _ h => h.2.2.2) Try.underlying56 rfl hif) hHeld ?_
      simp only [Act.put, List.setIfInBounds_toArray, List.set_cons_zero, List.set_cons_succ, List.getElem_toArray, List.getElem_cons_succ, List.getElem_cons_zero]
      refine wpAnyH_take (i := 10) (v := ?_) rfl (by kernel_rfl) (by kernel_rfl) (by kernel_rfl) (fun _ _ _ h => h) (Or.inl ⟨by kernel_rfl, ?_⟩) hHeld ?_
      rotate_left
      · (intro w' hSw; obtain ⟨hS0, hS1, hS2, hS3⟩ := hSw; go_simp; try with_reducible rfl)
      simp only [Act.put, List.setIfInBounds_toArray, List.set_cons_zero, List.set_cons_succ, List.getElem_toArray, List.getElem_cons_succ, List.getElem_cons_zero]
      refine wpAnyH_done (by kernel_rfl) ?_ _
      go_wp2_with fail
      go_roundw
      case rel => exact ⟨j + 1, k + 1, by omega, by go_num, by rw [HW.out.1]; rfl⟩
      case measure => simp [intOf]; omega
    · obtain rfl : j = N2 := by omega
      have y3 : wr.cell? ⟨w.heap.size, 3, none⟩ = some (.slice A1 N1 k1) := by rw [hwr]; exact x3
      have u3 : wr.cell? ⟨w.heap.size + 1, 3, none⟩ = some (.slice B1 N1 m1) := by rw [hwr]; exact z3
      have hbw : Below w.heap.size w wr := by rw [hwr]; exact below_drewN HB.out k
      clear hwr x3 x8 z3 z8 HB
      generalize wr = V at y3 u3 hbw y8 u8 ⊢
      have HB := Lib.hid hbw; clear hbw
      go_wp2_with fail
      clear y8 u8
      go_loopw [6] (fun i wr => ∃ (j k : Nat), j ≤ N1 ∧ i = .int .i64 (j : Nat) ∧ wr = V.drewN k) (fun i _ => N1 - (intOf i).toNat)
      case atStart => exact ⟨0, 0, by omega, rfl, rfl⟩
      case round =>
        rename_i wr0 _ _ _
        obtain ⟨i, k, hi, rfl, hwr⟩ := hrel
        have v3 : wr.cell? ⟨w.heap.size, 3, none⟩ = some (.slice A1 N1 k1) := by rw [hwr]; exact y3
        have s3 : wr.cell? ⟨w.heap.size + 1, 3, none⟩ = some (.slice B1 N1 m1) := by rw [hwr]; exact u3
        by_cases hin : i < N1
        · have hil : i < R.pk.length := by rw [← HH.out.2.2.2.2.2.2.1]; exact hin
          have hbw : Below w.heap.size w wr := by rw [hwr]; exact below_drewN HB.out k
          have hrc := HH.out.1.below hbw
          have hrc' := HH.out.2.1.below hbw
          obtain ⟨b, off, rfl, hbl, hcc⟩ := hrc.2 (by omega)
          obtain ⟨b', off', rfl, hbl', hcc'⟩ := hrc'.2 (by omega)
          obtain ⟨x, hx⟩ : ∃ x, R.pk[i]? = some x := ⟨_, List.getElem?_eq_getElem hil⟩
          have hsl : sv.length = R.pk.length := by rw [← HH.out.2.2.2.2.2.2.1]; exact HH.out.2.2.2.2.2.2.2.2.2.2.1
          have hsl' : sv'.length = R.pk.length := by rw [← HH.out.2.2.2.2.2.2.1]; exact HH.out.2.2.2.2.2.2.2.2.2.2.2
          obtain ⟨s, hs⟩ : ∃ s : Value, sv[i]? = some s := ⟨_, List.getElem?_eq_getElem (by omega)⟩
          obtain ⟨s', hs'⟩ : ∃ s : Value, sv'[i]? = some s := ⟨_, List.getElem?_eq_getElem (by omega)⟩
          have q1 := pkCs_get R.pk sv hsl i hil
          have q2 := pkCs_get R.pk sv' hsl' i hil
          have hxd : R.pk.getD i default = x := by rw [List.getD_eq_getElem?_getD, hx]; rfl
          rw [hxd] at q1 q2
          have c0 : wr.cell? ⟨b, off + i * 2, none⟩ = some (.string ⟨x.nm.toArray⟩) := by rw [hcc _ (by rw [pkCs_len _ _ hsl]; omega)]; exact q1.1
          have d0 : wr.cell? ⟨b', off' + i * 2, none⟩ = some (.string ⟨x.nm.toArray⟩) := by rw [hcc' _ (by rw [pkCs_len _ _ hsl']; omega)]; exact q2.1
          have c1 : wr.cell? ⟨b, off + i * 2 + 1, none⟩ = some s := by rw [Nat.add_assoc, hcc _ (by rw [pkCs_len _ _ hsl]; omega), q1.2, hs]
          have d1 : wr.cell? ⟨b', off' + i * 2 + 1, none⟩ = some s' := by rw [Nat.add_assoc, hcc' _ (by rw [pkCs_len _ _ hsl']; omega), q2.2, hs']
          obtain ⟨A9, k9, rfl, hp, -⟩ := HH.out.2.2.1 i x s hx hs
          obtain ⟨B9, m9, rfl, hp', -⟩ := HH.out.2.2.2.1 i x s' hx hs'
          have hxl := HH.out.2.2.2.2.2.2.2.2.1 x (List.mem_of_getElem? hx)
          obtain ⟨xn, xp⟩ := x
          simp only at c0 d0 c1 d1 hp hp' hxl
          obtain ⟨M, hM⟩ : ∃ M, M = xp.length := ⟨_, rfl⟩
          rw [← hM] at c1 d1 hp hp' hxl
          have HP := Lib.hid (And.intro hp (And.intro hp' (And.intro hM (And.intro hwr hbw))))
          clear hp hp' hM hwr hbw hrc hrc' hcc hcc' hx hs hs' q1 q2 hxd hsl hsl'
          have hj1 : (0 : Int) ≤ (i : Int) := by omega
          have hj2 : (i : Int) < (N1 : Int) := by omega
          clear y3 u3
          generalize wr = U at v3 s3 c0 d0 c1 d1 HP hbl hbl' ⊢
          go_wp2_with fail
          go_quiet (fail)
          go_wp2_with fail
          go_loopw [7] (fun i w2 => ∃ (q k : Nat), q ≤ M ∧ i = .int .i64 (q : Nat) ∧ w2 = U.drewN k) (fun i _ => M - (intOf i).toNat)
          case atStart => exact ⟨0, _, by omega, rfl, rfl⟩
          case round =>
            obtain ⟨q, k', hq, rfl, hwr⟩ := hrel
            have t3 : wr.cell? ⟨w.heap.size, 3, none⟩ = some (.slice (some ⟨b, off, none⟩) N1 k1) := by rw [hwr]; exact v3
            have t3' : wr.cell? ⟨w.heap.size + 1, 3, none⟩ = some (.slice (some ⟨b', off', none⟩) N1 m1) := by rw [hwr]; exact s3
            have e1 : wr.cell? ⟨b, off + i * 2 + 1, none⟩ = some (.slice A9 M k9) := by rw [hwr]; exact c1
            have e1' : wr.cell? ⟨b', off' + i * 2 + 1, none⟩ = some (.slice B9 M m9) := by rw [hwr]; exact d1
            by_cases hqM : q < M
            · have hql : q < xp.length := by rw [← HP.out.2.2.1]; exact hqM
              obtain ⟨b9, o9, rfl, hb9, hc9⟩ := (HP.out.1.below HP.out.2.2.2.2).2 (by omega)
              obtain ⟨b8, o8, rfl, hb8, hc8⟩ := (HP.out.2.1.below HP.out.2.2.2.2).2 (by omega)
              have hg := fun (z : Nat) (hz : z < 3) => flat_get plC 3 xp (fun _ _ => rfl) q z hql hz
              have hpll : (plCs xp).length = M * 3 := HP.out.1.1
              obtain ⟨z, hz⟩ : ∃ z, xp[q] = z := ⟨_, rfl⟩
              rw [hz] at hg
              have he := fun W => plc_eq z W
              have p0 : wr.cell? ⟨b9, o9 + q * 3, none⟩ = some (.string ⟨z.nm.toArray⟩) := by rw [hwr]; exact (hc9 (q * 3) (by omega)).trans (hg 0 (by omega))
              have p1 : wr.cell? ⟨b9, o9 + q * 3 + 1, none⟩ = some (.int .i64 z.a) := by rw [hwr, Nat.add_assoc]; exact (hc9 (q * 3 + 1) (by omega)).trans (hg 1 (by omega))
              have p2 : wr.cell? ⟨b9, o9 + q * 3 + 2, none⟩ = some (.int .i64 z.l) := by rw [hwr, Nat.add_assoc]; exact (hc9 (q * 3 + 2) (by omega)).trans (hg 2 (by omega))
              have r0 : wr.cell? ⟨b8, o8 + q * 3, none⟩ = some (.string ⟨z.nm.toArray⟩) := by rw [hwr]; exact (hc8 (q * 3) (by omega)).trans (hg 0 (by omega))
              have r1 : wr.cell? ⟨b8, o8 + q * 3 + 1, none⟩ = some (.int .i64 z.a) := by rw [hwr, Nat.add_assoc]; exact (hc8 (q * 3 + 1) (by omega)).trans (hg 1 (by omega))
              have r2 : wr.cell? ⟨b8, o8 + q * 3 + 2, none⟩ = some (.int .i64 z.l) := by rw [hwr, Nat.add_assoc]; exact (hc8 (q * 3 + 2) (by omega)).trans (hg 2 (by omega))
              have HW := Lib.hid hwr; clear hwr hg hc9 hc8 hz hpll v3 s3 c0 d0 c1 d1
              have hq1 : (0 : Int) ≤ (q : Int) := by omega
              have hq2 : (q : Int) < (M : Int) := by omega
              go_wp2_with fail
              go_quiet (fail)
              go_wp2_with fail
              rw [HW.out]
              go_roundw
              case rel => exact ⟨q + 1, _, by omega, by go_num, World.drewN_drewN _ _ _⟩
              case measure => simp [intOf]; omega
            · obtain rfl : q = M := by omega
              have HW := Lib.hid hwr; clear hwr v3 s3 c0 d0 c1 d1
              go_wp2_with fail
              rw [HW.out, HP.out.2.2.2.1]
              go_roundw
              case rel => exact ⟨i + 1, _, by omega, by go_num, World.drewN_drewN _ _ _⟩
              case measure => simp [intOf]; omega
        · obtain rfl : i = N1 := by omega
          go_wp2_with fail
          go_ret
          exact ⟨_, rfl, rfl, below_drewN HB.out k⟩
end Go.Proofs.Yteamkiblogbfmaa
