/- The walk of spread's Drop. -/
import Derived.Test.YtdnebgilkfafhaaGreatDoorSpW5
namespace Go.Proofs.YtdnebgilkfafhaaGreatDoor
open Go.RowKit
set_option linter.unusedVariables false
set_option linter.unusedSimpArgs false
attribute [local go_sem] ba_get ba_cut ba_add
/-- What the closure of Drop holds: the name, the first error. -/
structure DrJ (P P2 : Nat) (nm : List UInt8) (but : Nat) (er : Nat → Nat) (k : Nat) (W : World) : Prop where
  nm : W.heap[P]? = some (.cells #[.string ⟨nm.toArray⟩] 9 (0, 0))
  fs : W.heap[P2]? = some (.cells #[.int .i64 ((fstK but er k : Nat) : Int)] 35 (0, 0))
theorem DrJ.keep {P P2 : Nat} {nm : List UInt8} {but : Nat} {er : Nat → Nat} {k : Nat} {W W' : World} (h : DrJ P P2 nm but er k W) (hb : Below W.heap.size W W') : DrJ P P2 nm but er k W' := ⟨keepB h.nm hb, keepB h.fs hb⟩
theorem DrJ.kpa {P P2 N : Nat} {nm : List UInt8} {but : Nat} {er : Nat → Nat} {k : Nat} {W W' : World} (h : DrJ P P2 nm but er k W) (hk : KpA N W W') (h0 : P < N) (h2 : P2 < N) : DrJ P P2 nm but er k W' :=
  ⟨(hk.2 P _ _ h.nm (.inl h0)).trans h.nm, (hk.2 P2 _ _ h.fs (.inl h2)).trans h.fs⟩
def dropSh (nm : List UInt8) (S : Nat → Pl.Shelf) (n : Int) (i : Nat) : Pl.Shelf := (Pl.one (Pl.dropS nm) 17 (Pl.leftAt n i) (S i)).1
def dropEr (nm : List UInt8) (S : Nat → Pl.Shelf) (n : Int) (i : Nat) : Nat := (Pl.one (Pl.dropS nm) 17 (Pl.leftAt n i) (S i)).2
set_option maxRecDepth 100000 in
set_option maxHeartbeats 4000000 in
theorem drop1_any (P P2 B0 : Nat) (nm : List UInt8) (er : Nat → Nat) (k : Nat) (hk : k < 5) (s : Pl.Shelf) (x : ShX) (left : Int) (N : Nat) (W : World) (hNW : N ≤ W.heap.size) (hJ : DrJ P P2 nm 9 er k W) (hx : ShF N W s x) (hfit : Pl.FitG s.objs s.fates) (hP : P < B0) (hP2 : B0 ≤ P2) (hPN : P2 < N)
    (her : (Pl.one (Pl.dropS nm) 17 left s).2 = er k) :
    Calls Tryz.prog 50 #[.int .i64 (k : Int), .agg #[.slice x.A s.objs.length x.c, .slice x.A' s.fates.length x.c'], .bool (left == 0), .pointer (some ⟨P, 0, none⟩), .pointer (some ⟨P2, 0, none⟩)] W
      (fun e W' => ∃ x', e = .returned (.agg #[.slice x'.A (Pl.one (Pl.dropS nm) 17 left s).1.objs.length x'.c, .slice x'.A' (Pl.one (Pl.dropS nm) 17 left s).1.fates.length x'.c']) ∧ ShF N W' (Pl.one (Pl.dropS nm) 17 left s).1 x' ∧ DrJ P P2 nm 9 er (k + 1) W' ∧ Below B0 W W' ∧ KpX (fun g => g = P2) W W') := by
  obtain ⟨A, c, A', c'⟩ := x
  obtain ⟨⟨so, sf⟩, hse⟩ : ∃ s', s = s' := ⟨_, rfl⟩
  subst hse
  obtain ⟨R, hR⟩ : ∃ R, Pl.one (Pl.dropS nm) 17 left ⟨so, sf⟩ = R := ⟨_, rfl⟩
  rw [hR] at her ⊢
  unfold Pl.one Pl.dropS at hR
  obtain ⟨a, ha⟩ : ∃ a, so.length = a := ⟨_, rfl⟩
  obtain ⟨b, hb⟩ : ∃ b, sf.length = b := ⟨_, rfl⟩
  have hpu := fun V h1 h2 => drop_all A A' c c' so sf nm V a b ha hb h1 h2 hfit
  simp only at hx hR ⊢
  unfold ShF at hx
  simp only [ha, hb] at hx ⊢
  have HH := Lib.hid (And.intro hR (And.intro her (And.intro hpu (And.intro True.intro (And.intro hJ (And.intro hx (And.intro hfit (And.intro ha hb))))))))
  clear hR her hpu hJ hx hfit ha hb
  obtain ⟨f, hf⟩ : ∃ f, fstK 9 er k = f := ⟨_, rfl⟩
  obtain ⟨q, hq⟩ : ∃ q, er k = q := ⟨_, rfl⟩
  have HQ := Lib.hid (And.intro hf hq)
  go_enter Tryz.func50, Tryz.ntmps50
  go_upto_region 2 with (fail)
  obtain ⟨T, hT⟩ : ∃ T, W.heap.size = T := ⟨_, rfl⟩
  generalize hV : World.alloc (World.alloc W _) _ = V
  have hzT : V.heap[T]? = some (.cells #[.slice A a c, .slice A' b c'] 26 (0, 0)) := by rw [← hV, ← hT]; exact (Below.heap_alloc _ _ _ (by simp)).trans (heap_alloc_new _ _)
  have hzR : V.heap[T + 1]? = some (.cells #[.slice none 0 0, .slice none 0 0] 26 (0, 0)) := by rw [← hV, ← hT]; exact heap_alloc_2 _ _ _
  have hbV : Below T W V := by rw [← hV, ← hT]; exact ((Below.refl _ _).alloc (Nat.le_refl _) _).alloc (by simp) _
  have hJV := HH.out.2.2.2.2.1.keep (by rw [hT]; exact hbV)
  simp only [hT]
  have t0 : V.cell? ⟨T, 0, none⟩ = some (.slice A a c) := by rw [cell_row V T 0 _ _ hzT]; rfl
  have t1 : V.cell? ⟨T, 1, none⟩ = some (.slice A' b c') := by rw [cell_row V T 1 _ _ hzT]; rfl
  have n0 : V.cell? ⟨P, 0, none⟩ = some (.string ⟨nm.toArray⟩) := by rw [cell_row V P 0 _ _ hJV.nm]; rfl
  have f0 : V.cell? ⟨P2, 0, none⟩ = some (.int .i64 (f : Int)) := by rw [cell_row V P2 0 _ _ hJV.fs, hf]; rfl
  have ff : V.frozen? ⟨P2, 0, none⟩ = false := frozen_of V P2 0 _ _ hJV.fs
  have HV := Lib.hid (And.intro hzT (And.intro hzR (And.intro hbV hJV)))
  clear hV hzT hzR hbV hJV hf hq
  have hTP : P2 < T := by omega
  have hWs : T ≤ V.heap.size := by rw [← hT]; exact HV.out.2.2.1.size
  by_cases h0 : left = 0
  case' pos =>
    have hl : (left == 0) = true := by simp [h0]
    simp only [hl]
    have hRe : R = (⟨so, sf⟩, 17) := by rw [← HH.out.1, if_pos h0]
    have hqe : q = 17 := by rw [← HQ.out.2, ← HH.out.2.1, hRe]
    go_upto_region 4 with (fail)
    obtain ⟨V4, hV4⟩ : ∃ V4, V4 = V := ⟨_, rfl⟩
    obtain ⟨e4, he4⟩ : ∃ e4 : Nat, e4 = 17 := ⟨_, rfl⟩
    have hx4 := HH.out.2.2.2.2.2.1
    have hb4 : Below T W V4 := by rw [hV4]; exact HV.out.2.2.1
    have hT4 : V4.heap[T]? = some (.cells #[.slice A a c, .slice A' b c'] 26 (0, 0)) := by rw [hV4]; exact HV.out.1
    have hR4 : V4.heap[T + 1]? = some (.cells #[.slice none 0 0, .slice none 0 0] 26 (0, 0)) := by rw [hV4]; exact HV.out.2.1
    have hJ4 : DrJ P P2 nm 9 er k V4 := by rw [hV4]; exact HV.out.2.2.2
    have hs4 : ShF N V4 R.1 ⟨A, c, A', c'⟩ := by
      have h : ShF N W ⟨so, sf⟩ ⟨A, c, A', c'⟩ := by unfold ShF; simp only [HH.out.2.2.2.2.2.2.2.1, HH.out.2.2.2.2.2.2.2.2]; exact hx4
      rw [hRe]
      exact h.kpt (KpT.below (by rw [hT]; exact hb4))
    have hn4 : R.1.objs.length = a := by rw [hRe]; exact HH.out.2.2.2.2.2.2.2.1
    have hm4 : R.1.fates.length = b := by rw [hRe]; exact HH.out.2.2.2.2.2.2.2.2
    have hqq : q = e4 := by rw [hqe, he4]
    have he4' : (17 : Int) = (e4 : Int) := by omega
    rw [← hV4, he4']
    obtain ⟨n4, hn4'⟩ : ∃ z, z = a := ⟨_, rfl⟩
    obtain ⟨m4, hm4'⟩ : ∃ z, z = b := ⟨_, rfl⟩
    rw [← hn4'] at hT4 hn4
    rw [← hm4'] at hT4 hm4
    obtain ⟨A4, hA4⟩ : ∃ z, z = A := ⟨_, rfl⟩
    obtain ⟨c4, hc4⟩ : ∃ z, z = c := ⟨_, rfl⟩
    obtain ⟨A4', hA4'⟩ : ∃ z, z = A' := ⟨_, rfl⟩
    obtain ⟨c4', hc4'⟩ : ∃ z, z = c' := ⟨_, rfl⟩
    rw [← hA4, ← hc4, ← hA4', ← hc4'] at hT4 hs4
    have H4 := Lib.hid (And.intro hb4 (And.intro hT4 (And.intro hR4 (And.intro hJ4 (And.intro hs4 (And.intro hn4 (And.intro hm4 hqq)))))))
    clear t0 t1 n0 f0 ff hl hRe hqe hV4 he4 he4' hx4 hb4 hT4 hR4 hJ4 hs4 hn4 hm4 hqq hn4' hm4' hA4 hc4 hA4' hc4' h0
  case' neg =>
    have hl : (left == 0) = false := by simp [h0]
    simp only [hl]
    have hTl : T < V.heap.size := blk_lt HV.out.1
    have hPl : P2 < V.heap.size := blk_lt HV.out.2.2.2.fs
    have hsl := (HH.out.2.2.2.2.2.1.1.at.below (by rw [hT]; exact HV.out.2.2.1) : SlAt V 4 A a c (objCs so))
    have hsf := (HH.out.2.2.2.2.2.1.2.at.below (by rw [hT]; exact HV.out.2.2.1) : SlAt V 1 A' b c' (ints sf))
    have HSL := Lib.hid (And.intro hsl hsf)
    clear hsl hsf
    go_upto_region 4 with (with_reducible refine (HH.out.2.2.1 V HSL.out.1 HSL.out.2).mono ?_)
    rintro e w5 ⟨v, rfl, ⟨A4, c4, A4', c4', rfl, ho4, hf4⟩, hb5⟩
    have hRe : R = (⟨(Pl.dropA so sf nm).1, (Pl.dropA so sf nm).2.1⟩, (Pl.dropA so sf nm).2.2) := by rw [← HH.out.1, if_neg h0]
    obtain ⟨e4, he4⟩ : ∃ e4, (Pl.dropA so sf nm).2.2 = e4 := ⟨_, rfl⟩
    have hqq : q = e4 := by rw [← HQ.out.2, ← HH.out.2.1, hRe, ← he4]
    obtain ⟨n4, hn4⟩ : ∃ n4, (Pl.dropA so sf nm).1.length = n4 := ⟨_, rfl⟩
    obtain ⟨m4, hm4⟩ : ∃ m4, (Pl.dropA so sf nm).2.1.length = m4 := ⟨_, rfl⟩
    have hs5 : ShF N w5 R.1 ⟨A4, c4, A4', c4'⟩ := by
      rw [hRe]
      exact (show ShF V.heap.size w5 ⟨(Pl.dropA so sf nm).1, (Pl.dropA so sf nm).2.1⟩ ⟨A4, c4, A4', c4'⟩ from ⟨ho4, hf4⟩).weak (by omega)
    have hn4R : R.1.objs.length = n4 := by rw [hRe]; exact hn4
    have hm4R : R.1.fates.length = m4 := by rw [hRe]; exact hm4
    have hbV5 : Below T W w5 := HV.out.2.2.1.trans (hb5.mono hWs)
    have hzT5 := keepB HV.out.1 hb5
    have hzR5 := keepB HV.out.2.1 hb5
    have hJ5 := HV.out.2.2.2.keep hb5
    have y0 : w5.cell? ⟨T, 0, none⟩ = some (.slice A a c) := by rw [cell_row w5 T 0 _ _ hzT5]; rfl
    have y1 : w5.cell? ⟨T, 1, none⟩ = some (.slice A' b c') := by rw [cell_row w5 T 1 _ _ hzT5]; rfl
    have yf0 : w5.frozen? ⟨T, 0, none⟩ = false := frozen_of w5 T 0 _ _ hzT5
    have yf1 : w5.frozen? ⟨T, 1, none⟩ = false := frozen_of w5 T 1 _ _ hzT5
    simp only [he4, hn4, hm4]
    go_upto_region 4 with (fail)
    have hT4 := set_at _ T 1 _ (.slice A4' m4 c4') _ (set_at _ T 0 _ (.slice A4 n4 c4) _ hzT5)
    have hR4 : ((w5.setCell ⟨T, 0, none⟩ (.slice A4 n4 c4)).setCell ⟨T, 1, none⟩ (.slice A4' m4 c4')).heap[T + 1]? = some (.cells #[.slice none 0 0, .slice none 0 0] 26 (0, 0)) := ((Below.heap_setCell _ _ _ _ (by show T + 1 ≠ T; omega)).trans (Below.heap_setCell _ _ _ _ (by show T + 1 ≠ T; omega))).trans hzR5
    have hkt4 : KpT N w5 ((w5.setCell ⟨T, 0, none⟩ (.slice A4 n4 c4)).setCell ⟨T, 1, none⟩ (.slice A4' m4 c4')) := (KpT.set hzT5 (by decide) (by decide) _ _).trans (KpT.set (set_at _ _ _ _ _ _ hzT5) (by decide) (by decide) _ _)
    have hs4 := hs5.kpt hkt4
    have hb4 : Below T W ((w5.setCell ⟨T, 0, none⟩ (.slice A4 n4 c4)).setCell ⟨T, 1, none⟩ (.slice A4' m4 c4')) := (hbV5.setCell (p := ⟨T, 0, none⟩) (Nat.le_refl T) _).setCell (p := ⟨T, 1, none⟩) (Nat.le_refl T) _
    have hJ4 : DrJ P P2 nm 9 er k ((w5.setCell ⟨T, 0, none⟩ (.slice A4 n4 c4)).setCell ⟨T, 1, none⟩ (.slice A4' m4 c4')) := by
      have hj : ∀ g, g < T → ((w5.setCell ⟨T, 0, none⟩ (.slice A4 n4 c4)).setCell ⟨T, 1, none⟩ (.slice A4' m4 c4')).heap[g]? = w5.heap[g]? := fun g hg => (Below.heap_setCell _ _ _ _ (by show g ≠ T; omega)).trans (Below.heap_setCell _ _ _ _ (by show g ≠ T; omega))
      exact ⟨(hj P (by omega)).trans hJ5.nm, (hj P2 (by omega)).trans hJ5.fs⟩
    generalize hV4 : World.setCell (World.setCell w5 _ _) _ _ = V4
    rw [hV4] at hT4 hR4 hs4 hb4 hJ4
    have H4 := Lib.hid (And.intro hb4 (And.intro hT4 (And.intro hR4 (And.intro hJ4 (And.intro hs4 (And.intro hn4R (And.intro hm4R hqq)))))))
    clear t0 t1 n0 f0 ff hl hRe hqq hV4 hT4 hR4 hkt4 hs4 hb4 hJ4 hn4R hm4R hs5 he4 hn4 hm4 ho4 hf4 hb5 hbV5 hzT5 hzR5 hJ5 y0 y1 yf0 yf1 h0 HSL
  all_goals
    have t0 : V4.cell? ⟨T, 0, none⟩ = some (.slice A4 n4 c4) := by rw [cell_row V4 T 0 _ _ H4.out.2.1]; rfl
    have t1 : V4.cell? ⟨T, 1, none⟩ = some (.slice A4' m4 c4') := by rw [cell_row V4 T 1 _ _ H4.out.2.1]; rfl
    have r0 : V4.cell? ⟨T + 1, 0, none⟩ = some (.slice none 0 0) := by rw [cell_row V4 (T + 1) 0 _ _ H4.out.2.2.1]; rfl
    have r1 : V4.cell? ⟨T + 1, 1, none⟩ = some (.slice none 0 0) := by rw [cell_row V4 (T + 1) 1 _ _ H4.out.2.2.1]; rfl
    have rf : ∀ i, V4.frozen? ⟨T + 1, i, none⟩ = false := fun i => frozen_of V4 (T + 1) i _ _ H4.out.2.2.1
    have hsn := fstK_succ 9 er k
    rw [HQ.out.1, HQ.out.2] at hsn
    have hq4 := H4.out.2.2.2.2.2.2.2
    by_cases hf0 : f = 0 ∧ e4 ≠ 9
    · have f0 : V4.cell? ⟨P2, 0, none⟩ = some (.int .i64 0) := by rw [cell_row V4 P2 0 _ _ H4.out.2.2.2.1.fs, HQ.out.1, hf0.1]; rfl
      have ff : V4.frozen? ⟨P2, 0, none⟩ = false := frozen_of V4 P2 0 _ _ H4.out.2.2.2.1.fs
      have hsn4 : fstK 9 er (k + 1) = e4 := by
        rw [hsn, hq4, if_pos hf0]
      have hf1 : ((e4 : Int) != 9) = true := by simp; omega
      clear hf0 hsn hq4
      go_wp2_with fail
      refine bodyPost_ret (v := .agg #[.slice A4 n4 c4, .slice A4' m4 c4']) (by simp [results, Tryz.results50, go_sem, r0, r1]) rfl ?_
      have hfs := set_at _ P2 0 _ (.int .i64 (e4 : Int)) _ H4.out.2.2.2.1.fs
      obtain ⟨V5, hV5⟩ : ∃ V5, V4.setCell ⟨P2, 0, none⟩ (.int .i64 (e4 : Int)) = V5 := ⟨_, rfl⟩
      have ho5 : ∀ g, g ≠ P2 → V5.heap[g]? = V4.heap[g]? := fun g hg => by rw [← hV5]; exact Below.heap_setCell _ _ _ _ hg
      have hk5 : KpT N V4 V5 := by rw [← hV5]; exact KpT.set H4.out.2.2.2.1.fs (by decide) (by decide) _ _
      have hb5 : Below B0 W V5 := by rw [← hV5]; exact (H4.out.1.mono (by omega)).setCell (p := ⟨P2, 0, none⟩) hP2 _
      have hf5 : V5.heap[P2]? = some (.cells #[.int .i64 ((fstK 9 er (k + 1) : Nat) : Int)] 35 (0, 0)) := by rw [← hV5, hsn4]; exact hfs
      rw [hV5]
      clear hV5 hfs
      have hR5 := (ho5 (T + 1) (by omega)).trans H4.out.2.2.1
      have hk6 : KpT N V5 ((V5.setCell ⟨T + 1, 0, none⟩ (.slice A4 n4 c4)).setCell ⟨T + 1, 1, none⟩ (.slice A4' m4 c4')) := (KpT.set hR5 (by decide) (by decide) _ _).trans (KpT.set (set_at _ _ _ _ _ _ hR5) (by decide) (by decide) _ _)
      have ho6 : ∀ g, g < T + 1 → ((V5.setCell ⟨T + 1, 0, none⟩ (.slice A4 n4 c4)).setCell ⟨T + 1, 1, none⟩ (.slice A4' m4 c4')).heap[g]? = V5.heap[g]? := fun g hg => (Below.heap_setCell _ _ _ _ (by show g ≠ T + 1; omega)).trans (Below.heap_setCell _ _ _ _ (by show g ≠ T + 1; omega))
      refine ⟨⟨A4, c4, A4', c4'⟩, by rw [H4.out.2.2.2.2.2.1, H4.out.2.2.2.2.2.2.1], H4.out.2.2.2.2.1.kpt (hk5.trans hk6), ⟨?_, ?_⟩, (hb5.setCell (p := ⟨T + 1, 0, none⟩) (by show B0 ≤ T + 1; omega) _).setCell (p := ⟨T + 1, 1, none⟩) (by show B0 ≤ T + 1; omega) _, ?_⟩
      · exact (ho6 P (by omega)).trans ((ho5 P (by omega)).trans H4.out.2.2.2.1.nm)
      · exact (ho6 P2 (by omega)).trans hf5
      · intro g C t hg hne _
        have hgT : g < T := by rw [← hT]; exact blk_lt hg
        exact (ho6 g (by omega)).trans ((ho5 g hne).trans (H4.out.1.block g hgT))
    · have f0 : V4.cell? ⟨P2, 0, none⟩ = some (.int .i64 (f : Int)) := by rw [cell_row V4 P2 0 _ _ H4.out.2.2.2.1.fs, HQ.out.1]; rfl
      have hsn4 : fstK 9 er (k + 1) = f := by
        rw [hsn, hq4, if_neg hf0]
      have hcd : (((f : Int) == 0) && ((e4 : Int) != 9)) = false := by
        rw [Bool.and_eq_false_iff]
        by_cases h : f = 0
        · right; have h9 : e4 = 9 := by omega
          rw [h9]; rfl
        · left; rw [beq_eq_false_iff_ne]; omega
      obtain ⟨g1, hg1⟩ : ∃ g, ((f : Int) == 0) = g := ⟨_, rfl⟩
      obtain ⟨g2, hg2⟩ : ∃ g, ((e4 : Int) != 9) = g := ⟨_, rfl⟩
      rw [hg1, hg2] at hcd
      clear hf0 hsn hq4
      cases g1 <;> cases g2 <;> first | (exact absurd hcd (by decide)) | skip
      all_goals
       clear hcd
       go_wp2_with fail
       refine bodyPost_ret (v := .agg #[.slice A4 n4 c4, .slice A4' m4 c4']) (by simp [results, Tryz.results50, go_sem, r0, r1]) rfl ?_
       obtain ⟨V5, hV5⟩ : ∃ V5, V5 = V4 := ⟨_, rfl⟩
       have ho5 : ∀ g, g ≠ P2 → V5.heap[g]? = V4.heap[g]? := fun g hg => by rw [hV5]
       have hk5 : KpT N V4 V5 := by rw [hV5]; exact KpT.refl _ _
       have hb5 : Below B0 W V5 := by rw [hV5]; exact H4.out.1.mono (by omega)
       have hf5 : V5.heap[P2]? = some (.cells #[.int .i64 ((fstK 9 er (k + 1) : Nat) : Int)] 35 (0, 0)) := by rw [hV5, hsn4, ← HQ.out.1]; exact H4.out.2.2.2.1.fs
       rw [← hV5]
       clear hV5
       have hR5 := (ho5 (T + 1) (by omega)).trans H4.out.2.2.1
       have hk6 : KpT N V5 ((V5.setCell ⟨T + 1, 0, none⟩ (.slice A4 n4 c4)).setCell ⟨T + 1, 1, none⟩ (.slice A4' m4 c4')) := (KpT.set hR5 (by decide) (by decide) _ _).trans (KpT.set (set_at _ _ _ _ _ _ hR5) (by decide) (by decide) _ _)
       have ho6 : ∀ g, g < T + 1 → ((V5.setCell ⟨T + 1, 0, none⟩ (.slice A4 n4 c4)).setCell ⟨T + 1, 1, none⟩ (.slice A4' m4 c4')).heap[g]? = V5.heap[g]? := fun g hg => (Below.heap_setCell _ _ _ _ (by show g ≠ T + 1; omega)).trans (Below.heap_setCell _ _ _ _ (by show g ≠ T + 1; omega))
       refine ⟨⟨A4, c4, A4', c4'⟩, by rw [H4.out.2.2.2.2.2.1, H4.out.2.2.2.2.2.2.1], H4.out.2.2.2.2.1.kpt (hk5.trans hk6), ⟨?_, ?_⟩, (hb5.setCell (p := ⟨T + 1, 0, none⟩) (by show B0 ≤ T + 1; omega) _).setCell (p := ⟨T + 1, 1, none⟩) (by show B0 ≤ T + 1; omega) _, ?_⟩
       · exact (ho6 P (by omega)).trans ((ho5 P (by omega)).trans H4.out.2.2.2.1.nm)
       · exact (ho6 P2 (by omega)).trans hf5
       · intro g C t hg hne _
         have hgT : g < T := by rw [← hT]; exact blk_lt hg
         exact (ho6 g (by omega)).trans ((ho5 g hne).trans (H4.out.1.block g hgT))
set_option maxRecDepth 100000 in
set_option maxHeartbeats 4000000 in
theorem sdrop_good (S : Nat → Pl.Shelf) (X : Nat → ShX) (n : Int) (hn : Pl.I64 n) (nm : List UInt8) (w : World) (hok : StOk w S X) (hfit : FitS S) (hgood : Pl.okName nm = true) :
    Calls Tryz.prog 20 #[.agg (stoL S X n).toArray, .string ⟨nm.toArray⟩] w (RetB (PutAllOut w.heap.size (dropSh nm S n) (Pl.leftAt n 5) (fstK 9 (dropEr nm S n) 5)) w) := by
  have hmay := fun W => smayName_any nm W
  rw [hgood] at hmay
  obtain ⟨N, hN⟩ : ∃ N, w.heap.size = N := ⟨_, rfl⟩
  obtain ⟨L, hL⟩ : ∃ L, stoL S X n = L := ⟨_, rfl⟩
  have HIL : Hid ((Tryz.prog.info? 33).map (·.size) = some L.length) := by rw [← hL]; exact info_sto
  have HL := Lib.hid hL
  have HH := Lib.hid (And.intro hok hmay)
  rw [hL]
  clear hL hok hmay hgood
  go_enter Tryz.func20, Tryz.ntmps20
  go_upto_region 1 with (fail)
  try simp only [Nat.add_assoc, Nat.reduceAdd]
  rw [zero_sto]
  generalize hV0 : World.alloc _ (.cells (stoL (fun _ => Pl.noSh) (fun _ => ⟨none, 0, none, 0⟩) 0).toArray 33) = V0
  have hVa : allocs w [.cells L.toArray 33, .cells #[.string ⟨nm.toArray⟩] 9, .cells (stoL (fun _ => Pl.noSh) (fun _ => ⟨none, 0, none, 0⟩) 0).toArray 33] = V0 := hV0
  have hb0 : Below N w V0 := by rw [← hVa]; exact allocs_below w _ N (by omega)
  have hs0 : V0.heap.size = N + 3 := by rw [← hVa, allocs_size, hN]; simp only [List.length_cons, List.length_nil]
  have g0 : StBx N S X n V0 := by unfold StBx; rw [HL.out]; exact allocs_at hVa hN 0 rfl
  have g1 : V0.heap[N + 1]? = some (.cells #[.string ⟨nm.toArray⟩] 9 (0, 0)) := allocs_at hVa hN 1 rfl
  have g2 : StBx (N + 2) (fun _ => Pl.noSh) (fun _ => ⟨none, 0, none, 0⟩) 0 V0 := allocs_at hVa hN 2 rfl
  have c1 : V0.cell? ⟨N + 1, 0, none⟩ = some (.string ⟨nm.toArray⟩) := by rw [cell_row V0 (N + 1) 0 _ _ g1]; rfl
  have HG := Lib.hid (And.intro hb0 (And.intro hs0 (And.intro g0 (And.intro g1 g2))))
  clear hV0 hVa hb0 g0 g1 g2 hs0
  go_upto_region 3 with (with_reducible refine (HH.out.2 V0).mono ?_)
  rintro _ w1 ⟨rfl, rfl⟩
  clear c1
  have hs0 := HG.out.2.1
  have hEx : ∃ V, V0.alloc (.cells #[.int .i64 0] 35) = V := ⟨_, rfl⟩
  go_upto_region 4 with (fail)
  obtain ⟨V, hV⟩ := hEx
  try simp only [hs0]
  try simp only [hV]
  have hbe : Below V0.heap.size V0 V := by rw [← hV]; exact (Below.refl _ _).alloc (Nat.le_refl _) _
  have hbV : Below N w V := HG.out.1.trans (hbe.mono (by omega))
  have hsV : V.heap.size = N + 4 := by rw [← hV]; simp [hs0]
  have h0 : StBx N S X n V := HG.out.2.2.1.keep hbe
  have h3 : StBx (N + 2) (fun _ => Pl.noSh) (fun _ => ⟨none, 0, none, 0⟩) 0 V := HG.out.2.2.2.2.keep hbe
  have hJ0 : DrJ (N + 1) (N + 3) nm 9 (dropEr nm S n) 0 V := ⟨keepB HG.out.2.2.2.1 hbe, by rw [← hV, ← hs0]; exact heap_alloc_new _ _⟩
  have hst : StOk V S X := HH.out.1.below (by rw [hN]; exact hbV)
  have hall := all_any 50 #[.pointer (some ⟨N + 1, 0, none⟩), .pointer (some ⟨N + 3, 0, none⟩)] S (dropSh nm S n) X n hn V (N + 3) (fun g => g = N + 3) (DrJ (N + 1) (N + 3) nm 9 (dropEr nm S n)) hst hfit (by omega) (fun g hg => by omega)
    (fun a b c W => by kernel_rfl) (fun k W W' hj hk => hj.kpa hk (by omega) (by omega)) hJ0
    (fun k hk W x hs hb hj hx => drop1_any (N + 1) (N + 3) (N + 3) nm (dropEr nm S n) k hk (S k) x (Pl.leftAt n k) V.heap.size W hs hj hx (hfit k hk) (by omega) (by omega) (by omega) rfl)
  rw [HL.out] at hall
  have HA := Lib.hid hall
  have hrg : V.rangeAt N 0 L := by rw [← HL.out]; exact h0.range
  have HB := Lib.hid (And.intro hrg (And.intro h0 (And.intro h3 hbV)))
  clear hall hrg h0 h3 hbV hJ0 hst hV
  go_upto_region 5 with first
    | with_reducible refine wpList_load_mid rfl 33 _ rfl N 0 rfl L _ HB.out.1 Tryz.underlying33 rfl HIL.out ?_
    | (with_reducible refine HA.out.mono ?_)
  rintro e w2 ⟨X2, rfl, hst2, hJ2, hb2, hk2⟩
  obtain ⟨L2, hL2⟩ : ∃ L2, stoL (dropSh nm S n) X2 (Pl.leftAt n 5) = L2 := ⟨_, rfl⟩
  have h02 : StBx N S X n w2 := (hb2.block N (by omega)).trans HB.out.2.1
  have h32 : StBx (N + 2) (fun _ => Pl.noSh) (fun _ => ⟨none, 0, none, 0⟩) 0 w2 := (hb2.block (N + 2) (by omega)).trans HB.out.2.2.1
  have hT2 : w2.there N 0 L2.toArray.size := thereL h02 (by rw [← hL2]; exact Nat.le_refl 11)
  have hi2 : (Tryz.prog.info? 33).map (·.size) = some L2.toArray.size := by rw [List.size_toArray, ← hL2]; exact info_sto
  have hi2' : (Tryz.prog.info? 33).map (·.size) = some L2.length := by rw [← hL2]; exact info_sto
  have ho2 : ∀ v ∈ L2, v.oneCell' = true := by rw [← hL2]; exact stoL_one _ X2 _
  rw [hL2]
  obtain ⟨fe, hfe⟩ : ∃ fe, fstK 9 (dropEr nm S n) 5 = fe := ⟨_, rfl⟩
  have hset : (w2.setCells N 0 L2).heap[N]? = some (.cells L2.toArray 33 (0, 0)) := heap_setCells_all h02 (by rw [← hL2]; rfl)
  have hot : ∀ g, g ≠ N → g < w2.heap.size → (w2.setCells N 0 L2).heap[g]? = w2.heap[g]? := fun g hg hs => World.heap_setCells_other _ _ _ _ hs hg
  have hs2 := blk_lt hJ2.fs
  have h33 := (hot (N + 2) (by omega) (by omega)).trans h32
  have hf3 := (hot (N + 3) (by omega) (by omega)).trans hJ2.fs
  have hst3 : StF N (w2.setCells N 0 L2) (dropSh nm S n) X2 := (hst2.weak (b' := N) (by omega)).kpt (h02.kpts L2)
  have hb3 : Below N w (w2.setCells N 0 L2) := (HB.out.2.2.2.trans (hb2.mono (by omega))).trans (Lib.below_setCells_w (Nat.le_refl N) L2 0 w2)
  have HC := Lib.hid (And.intro hT2 (And.intro hi2 (And.intro ho2 (And.intro hset (And.intro h33 (And.intro hf3 (And.intro hst3 (And.intro hb3 (And.intro hL2 (And.intro hfe hi2'))))))))))
  rw [hfe] at hf3
  clear hT2 hi2 ho2 hset hot h33 hst3 hb3 hL2 h02 h32 hJ2 hb2 hk2 hst2 HA
  go_upto_region 5 with first
    | with_reducible refine wpList_store_mid rfl 33 _ _ rfl N 0 L2.toArray rfl rfl HC.out.1 HC.out.2.1 (all_oneCell_toArray HC.out.2.2.1) ?_
  obtain ⟨w3, hw3⟩ : ∃ w3, w2.setCells N 0 L2 = w3 := ⟨_, rfl⟩
  rw [hw3] at HC hf3 ⊢
  clear hw3
  have f0 : w3.cell? ⟨N + 3, 0, none⟩ = some (.int .i64 (fe : Int)) := by rw [cell_row w3 (N + 3) 0 _ _ hf3]; rfl
  refine wp_region_held_drew (S := (fun w' => w'.rangeAt N 0 L2 ∧ w'.cell? ⟨N + 3, 0, none⟩ = some (.int .i64 (fe : Int)))) (by kernel_rfl) (by exact ⟨rangeL HC.out.2.2.2.1, f0⟩) (fun hHeld => ?_)
  refine wpAnyH_take (i := 0) (v := .agg (L2).toArray) rfl (by kernel_rfl) (by kernel_rfl) (by kernel_rfl) (fun _ _ _ h => h) (yieldsIf_load_mid (by kernel_rfl) 33 _ rfl (N) (0) rfl L2 _ (fun _ h => h.1) Tryz.underlying33 rfl hi2') hHeld ?_
  simp only [Act.put, lay9]
  refine tk 1 (v := ?_) rfl ?_ hHeld ?_
  rotate_left
  · (intro w' hSw; (try dsimp only at hSw); (try obtain ⟨hS0, hS1⟩ := hSw); go_simp; try with_reducible rfl)
  simp only [Act.put, lay9]
  refine wpAnyH_ready (rs := [2]) (by kernel_rfl) (by simp) (AllReadyH.cons rfl (fun K hK => ?_) AllReadyH.nil)
  have hT3 : w3.drew.there (N + 2) 0 L2.toArray.size := thereL (w := w3) HC.out.2.2.2.2.1 (by rw [← HC.out.2.2.2.2.2.2.2.2.1]; exact Nat.le_refl 11)
  have hi3 : (Tryz.prog.info? 33).map (·.size) = some L2.toArray.size := HC.out.2.1
  have ho3 := all_oneCell_toArray HC.out.2.2.1
  have hs3 : N + 3 < w3.heap.size := blk_lt hf3
  refine wp_store_mid 33 _ _ rfl (N + 2) 0 L2.toArray rfl rfl hT3 hi3 ho3 ?_
  have hot4 : ∀ g, g ≠ N + 2 → g < w3.heap.size → (World.setCells w3.drew (N + 2) 0 L2).heap[g]? = w3.heap[g]? := fun g hg hs => World.heap_setCells_other w3.drew _ _ _ hs hg
  have hset4 : (World.setCells w3.drew (N + 2) 0 L2).heap[N + 2]? = some (.cells L2.toArray 33 (0, 0)) := heap_setCells_all (w := w3.drew) HC.out.2.2.2.2.1 (by rw [← HC.out.2.2.2.2.2.2.2.2.1]; rfl)
  have h04 := (hot4 N (by omega) (by omega)).trans HC.out.2.2.2.1
  have hf4 := (hot4 (N + 3) (by omega) (by omega)).trans hf3
  have hb4 : Below N w (World.setCells w3.drew (N + 2) 0 L2) := (HC.out.2.2.2.2.2.2.2.1.drew).trans (Lib.below_setCells_w (by omega) L2 0 w3.drew)
  have hst4 : StF N (World.setCells w3.drew (N + 2) 0 L2) (dropSh nm S n) X2 := HC.out.2.2.2.2.2.2.1.kpt (W' := World.setCells w3.drew (N + 2) 0 L2) (StBx.kpts (b := N) (W := w3.drew) HC.out.2.2.2.2.1 L2)
  generalize hw4 : World.setCells w3.drew (N + 2) 0 L2 = w4
  rw [hw4] at hset4 h04 hf4 hb4 hst4
  try rw [show L2.toArray.toList = L2 from rfl]
  try rw [hw4]
  have f4 : w4.cell? ⟨N + 3, 0, none⟩ = some (.int .i64 (fe : Int)) := by rw [cell_row w4 (N + 3) 0 _ _ hf4]; rfl
  refine hK.out _ _ ⟨rangeL h04, f4⟩ (fun hHeld => ?_)
  clear hK K
  (try simp only [Act.put, lay9])
  refine wpAnyH_ready (rs := [3]) (by kernel_rfl) (by simp) (AllReadyH.cons rfl (fun K hK => ?_) AllReadyH.nil)
  go_simp
  refine hK.out _ _ hHeld (fun hHeld => ?_)
  clear hK K
  (try simp only [Act.put, lay9])
  refine wpAnyH_done (by kernel_rfl) ?_ _
  go_wp2_with fail
  refine bodyPost_ret (v := .tuple #[.agg L2.toArray, .int .i64 (fe : Int)]) (results_sto2 (B := N + 2) rfl rfl rfl (rangeL hset4) HC.out.2.2.2.2.2.2.2.2.2.2) rfl ?_
  rw [← HC.out.2.2.2.2.2.2.2.2.2.1, ← HC.out.2.2.2.2.2.2.2.2.1]
  exact ⟨_, rfl, ⟨X2, rfl, by rw [hN]; exact hst4⟩, by rw [hN]; exact hb4⟩
end Go.Proofs.YtdnebgilkfafhaaGreatDoor
