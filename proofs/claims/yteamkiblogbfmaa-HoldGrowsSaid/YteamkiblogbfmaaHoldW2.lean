/- The walks of hold.find, the document's Find, law 50's great. -/
import Derived.Test.YteamkiblogbfmaaHoldMem
import Derived.LoopTactic
namespace Go.Proofs.Yteamkiblogbfmaa
open Go.RowKit
set_option linter.unusedVariables false
set_option linter.unusedSimpArgs false
def FndI (l : List Pl.Rf) (m : List UInt8) (n : Int) (w : World) (i : Value) (wr : World) : Prop := ∃ j : Nat, j ≤ l.length ∧ i = .int .i64 j ∧ (∀ q, q < j → ¬ ((l.getD q default).m = m ∧ (l.getD q default).n = n)) ∧ Below w.heap.size w wr
/-- The number that find returns. -/
def fiV (l : List Pl.Rf) (m : List UInt8) (n : Int) : Int := if l.length ≤ Pl.fi l m n then -1 else (Pl.fi l m n : Int)
theorem fiV_at {l : List Pl.Rf} {m : List UInt8} {n : Int} {i : Nat} (hi : i < l.length) (h : ∀ j, j < i → ¬ ((l.getD j default).m = m ∧ (l.getD j default).n = n)) (g : (l.getD i default).m = m ∧ (l.getD i default).n = n) : fiV l m n = i := by
  unfold fiV; rw [Pl.fi_at hi h g, if_neg (by omega)]
theorem fiV_none {l : List Pl.Rf} {m : List UInt8} {n : Int} (h : ∀ j, j < l.length → ¬ ((l.getD j default).m = m ∧ (l.getD j default).n = n)) : fiV l m n = -1 := by
  unfold fiV; rw [Pl.fi_none h, if_pos (Nat.le_refl _)]
set_option maxRecDepth 100000 in
set_option maxHeartbeats 1000000 in
theorem find_any (R : Pl.Rt) (s p c : Value) (m : List UInt8) (n : Int) (w : World) (hl : R.l.length ≤ 140737488355328) (h : RtAt w R s p c) :
    Calls Try.prog 22 #[rtV R s p c, .string ⟨m.toArray⟩, .int .i64 n] w (RetB (fun v _ => v = .int .i64 (fiV R.l m n)) w) := by
  obtain ⟨A, k, rfl, hr, -⟩ := h.s
  obtain ⟨F, hF⟩ : ∃ F, F = fiV R.l m n := ⟨_, rfl⟩
  rw [← hF]
  obtain ⟨r0, hr0⟩ : ∃ x, x = R.n := ⟨_, rfl⟩
  obtain ⟨r1, hr1⟩ : ∃ x, x = R.now := ⟨_, rfl⟩
  obtain ⟨r2, hr2⟩ : ∃ x, x = R.p.d := ⟨_, rfl⟩
  obtain ⟨r3, hr3⟩ : ∃ x, x = R.p.w := ⟨_, rfl⟩
  obtain ⟨r4, hr4⟩ : ∃ x, x = R.p.mo := ⟨_, rfl⟩
  obtain ⟨r5, hr5⟩ : ∃ x, x = R.p.y := ⟨_, rfl⟩
  unfold rtV
  rw [← hr0, ← hr1, ← hr2, ← hr3, ← hr4, ← hr5]
  clear hr0 hr1 hr2 hr3 hr4 hr5 h
  obtain ⟨l, hll⟩ : ∃ l, l = R.l := ⟨_, rfl⟩
  rw [← hll] at hr hF hl ⊢
  obtain ⟨N, hN⟩ : ∃ N, N = l.length := ⟨_, rfl⟩
  rw [← hN] at hr hl ⊢
  have HH := Lib.hid (And.intro hr (And.intro hF hN)); clear hr hF hN hll
  have hb0 : ∀ o, Below w.heap.size w (w.alloc o) := fun o => (Below.refl _ _).alloc (Nat.le_refl _) o
  go_enter Try.func22, Try.ntmps22
  go_wp2_with fail
  go_loopw [12] (FndI l m n w) (fun i _ => N - (intOf i).toNat)
  case atStart => exact ⟨0, by omega, rfl, fun q hq => absurd hq (by omega), hb0 _⟩
  case round =>
    clear hb0
    obtain ⟨j, hj, rfl, hq, hb⟩ := hrel
    rw [← HH.out.2.2] at hj
    by_cases hjn : j < N
    · obtain ⟨b, off, rfl, hbw, hrf⟩ := (HH.out.1.below hb).rf HH.out.2.2.symm hjn
      obtain ⟨y, hy⟩ : ∃ y, l.getD j default = y := ⟨_, rfl⟩
      obtain ⟨c0, c1, c2, c3, c4⟩ := hrf y hy
      obtain ⟨ym, yn, yt, ynm, ytil⟩ := y
      simp only at c0 c1 c2 c3 c4
      have j0 : (0 : Int) ≤ (j : Int) := by omega
      have j1 : (j : Int) < (N : Int) := by omega
      obtain ⟨q1, hq1⟩ : ∃ q1, (ym == m) = q1 := ⟨_, rfl⟩
      have hba : ∀ o, Below w.heap.size w (wr.alloc o) := fun o => hb.alloc hb.size o
      have HQ := Lib.hid (And.intro hq (And.intro hy (And.intro hba hq1))); clear hq hy hb hrf hba
      cases q1
      · go_wp2_with fail
        refine ⟨⟨j + 1, by rw [← HH.out.2.2]; omega, rfl, fun q hqj => ?_, HQ.out.2.2.1 _⟩, by simp [intOf]; omega⟩
        rcases Nat.lt_or_ge q j with h | h
        · exact HQ.out.1 q h
        · obtain rfl : q = j := by omega
          rw [HQ.out.2.1]
          exact fun h => by have := HQ.out.2.2.2; rw [beq_eq_false_iff_ne] at this; exact this h.1
      · obtain ⟨q2, hq2⟩ : ∃ q2, (yn == n) = q2 := ⟨_, rfl⟩
        have HQ2 := Lib.hid hq2
        cases q2
        · go_wp2_with fail
          refine ⟨⟨j + 1, by rw [← HH.out.2.2]; omega, rfl, fun q hqj => ?_, HQ.out.2.2.1 _⟩, by simp [intOf]; omega⟩
          rcases Nat.lt_or_ge q j with h | h
          · exact HQ.out.1 q h
          · obtain rfl : q = j := by omega
            rw [HQ.out.2.1]
            exact fun h => by have := HQ2.out; rw [beq_eq_false_iff_ne] at this; exact this h.2
        · go_wp2_with fail
          go_ret
          refine ⟨_, rfl, ?_, HQ.out.2.2.1 _⟩
          rw [HH.out.2.1, fiV_at (i := j) (by rw [← HH.out.2.2]; exact hjn) HQ.out.1 (by rw [HQ.out.2.1]; exact ⟨by have := HQ.out.2.2.2; rwa [beq_iff_eq] at this, by have := HQ2.out; rwa [beq_iff_eq] at this⟩)]
          rfl
    · obtain rfl : j = N := by omega
      have HQ := Lib.hid (And.intro hq hb); clear hq hb
      go_wp2_with fail
      go_ret
      refine ⟨_, rfl, ?_, HQ.out.2⟩
      rw [HH.out.2.1, fiV_none (fun q hq => HQ.out.1 q (by rw [HH.out.2.2]; exact hq))]
      rfl
set_option maxRecDepth 100000 in
set_option maxHeartbeats 1000000 in
theorem rfind_any (R : Pl.Rt) (s p c : Value) (m : List UInt8) (n : Int) (w : World) (hl : R.l.length ≤ 140737488355328) (h : RtAt w R s p c) :
    Calls Try.prog 24 #[rtV R s p c, .string ⟨m.toArray⟩, .int .i64 n] w (RetB (fun v _ => v = .int .i64 (fiV R.l m n)) w) := by
  obtain ⟨A, k, rfl, hr, -⟩ := h.s
  obtain ⟨F, hF⟩ : ∃ F, F = fiV R.l m n := ⟨_, rfl⟩
  rw [← hF]
  obtain ⟨r0, hr0⟩ : ∃ x, x = R.n := ⟨_, rfl⟩
  obtain ⟨r1, hr1⟩ : ∃ x, x = R.now := ⟨_, rfl⟩
  obtain ⟨r2, hr2⟩ : ∃ x, x = R.p.d := ⟨_, rfl⟩
  obtain ⟨r3, hr3⟩ : ∃ x, x = R.p.w := ⟨_, rfl⟩
  obtain ⟨r4, hr4⟩ : ∃ x, x = R.p.mo := ⟨_, rfl⟩
  obtain ⟨r5, hr5⟩ : ∃ x, x = R.p.y := ⟨_, rfl⟩
  unfold rtV
  rw [← hr0, ← hr1, ← hr2, ← hr3, ← hr4, ← hr5]
  clear hr0 hr1 hr2 hr3 hr4 hr5 h
  obtain ⟨l, hll⟩ : ∃ l, l = R.l := ⟨_, rfl⟩
  rw [← hll] at hr hF hl ⊢
  obtain ⟨N, hN⟩ : ∃ N, N = l.length := ⟨_, rfl⟩
  rw [← hN] at hr hl ⊢
  have HH := Lib.hid (And.intro hr (And.intro hF hN)); clear hr hF hN hll
  have hb0 : ∀ o, Below w.heap.size w (w.alloc o) := fun o => (Below.refl _ _).alloc (Nat.le_refl _) o
  have hx0 := @heap_alloc_new w
  go_enter Try.func24, Try.ntmps24
  go_wp2_with fail
  go_loopw [7] (fun i wr => FndI l m n w i wr ∧ wr.heap[w.heap.size]? = some (.cells #[.int .i64 r0, .int .i64 r1, .slice A N k, p, .int .i64 r2, .int .i64 r3, .int .i64 r4, .int .i64 r5, c] 28 (0, 0))) (fun i _ => N - (intOf i).toNat)
  case atStart => exact ⟨⟨0, by omega, rfl, fun q hq => absurd hq (by omega), hb0 _⟩, hx0 _⟩
  case round =>
    clear hb0 hx0
    obtain ⟨⟨j, hj, rfl, hq, hb⟩, hX⟩ := hrel
    have hx2 : wr.cell? ⟨w.heap.size, 2, none⟩ = some (.slice A N k) := cell_row wr _ 2 _ _ hX
    have hXl := blk_lt hX
    have HX := Lib.hid hX; clear hX
    rw [← HH.out.2.2] at hj
    by_cases hjn : j < N
    · obtain ⟨b, off, rfl, hbw, hrf⟩ := (HH.out.1.below hb).rf HH.out.2.2.symm hjn
      obtain ⟨y, hy⟩ : ∃ y, l.getD j default = y := ⟨_, rfl⟩
      obtain ⟨c0, c1, c2, c3, c4⟩ := hrf y hy
      obtain ⟨ym, yn, yt, ynm, ytil⟩ := y
      simp only at c0 c1 c2 c3 c4
      have j0 : (0 : Int) ≤ (j : Int) := by omega
      have j1 : (j : Int) < (N : Int) := by omega
      obtain ⟨q1, hq1⟩ : ∃ q1, (ym == m) = q1 := ⟨_, rfl⟩
      have HQ := Lib.hid (And.intro hq (And.intro hy (And.intro hb hq1))); clear hq hy hb hrf
      cases q1
      · go_wp2_with fail
        refine ⟨⟨⟨j + 1, by rw [← HH.out.2.2]; omega, rfl, fun q hqj => ?_, HQ.out.2.2.1⟩, HX.out⟩, by simp [intOf]; omega⟩
        rcases Nat.lt_or_ge q j with h | h
        · exact HQ.out.1 q h
        · obtain rfl : q = j := by omega
          rw [HQ.out.2.1]
          exact fun h => by have := HQ.out.2.2.2; rw [beq_eq_false_iff_ne] at this; exact this h.1
      · obtain ⟨q2, hq2⟩ : ∃ q2, (yn == n) = q2 := ⟨_, rfl⟩
        have HQ2 := Lib.hid hq2
        cases q2
        · go_wp2_with fail
          refine ⟨⟨⟨j + 1, by rw [← HH.out.2.2]; omega, rfl, fun q hqj => ?_, HQ.out.2.2.1⟩, HX.out⟩, by simp [intOf]; omega⟩
          rcases Nat.lt_or_ge q j with h | h
          · exact HQ.out.1 q h
          · obtain rfl : q = j := by omega
            rw [HQ.out.2.1]
            exact fun h => by have := HQ2.out; rw [beq_eq_false_iff_ne] at this; exact this h.2
        · go_wp2_with fail
          go_ret
          refine ⟨_, rfl, ?_, HQ.out.2.2.1⟩
          rw [HH.out.2.1, fiV_at (i := j) (by rw [← HH.out.2.2]; exact hjn) HQ.out.1 (by rw [HQ.out.2.1]; exact ⟨by have := HQ.out.2.2.2; rwa [beq_iff_eq] at this, by have := HQ2.out; rwa [beq_iff_eq] at this⟩)]
          rfl
    · obtain rfl : j = N := by omega
      have HQ := Lib.hid (And.intro hq hb); clear hq hb
      go_wp2_with fail
      go_ret
      refine ⟨_, rfl, ?_, HQ.out.2⟩
      rw [HH.out.2.1, fiV_none (fun q hq => HQ.out.1 q (by rw [HH.out.2.2]; exact hq))]
      rfl
/-- More than law 50 looks at? -/
def Pl.great50 (l : List Pl.Rf) : Bool := decide (60 < l.length) || l.any fun x => decide (100 < x.m.length) || decide (200 < x.nm.length)
def GrI (l : List Pl.Rf) (w : World) (i : Value) (wr : World) : Prop := ∃ j : Nat, j ≤ l.length ∧ i = .int .i64 j ∧ (∀ q, q < j → ¬ (100 < (l.getD q default).m.length ∨ 200 < (l.getD q default).nm.length)) ∧ wr = w
theorem Pl.great50_yes {l : List Pl.Rf} {j : Nat} (hj : j < l.length) (h : 100 < (l.getD j default).m.length ∨ 200 < (l.getD j default).nm.length) : Pl.great50 l = true := by
  unfold Pl.great50
  rw [Bool.or_eq_true, List.any_eq_true]
  exact .inr ⟨_, Pl.getD_mem l j hj, by simpa using h⟩
theorem Pl.great50_no {l : List Pl.Rf} (h0 : l.length ≤ 60) (h : ∀ q, q < l.length → ¬ (100 < (l.getD q default).m.length ∨ 200 < (l.getD q default).nm.length)) : Pl.great50 l = false := by
  unfold Pl.great50
  rw [decide_eq_false (by omega), Bool.false_or, List.any_eq_false]
  intro x hx
  obtain ⟨j, hj, rfl⟩ := Pl.ex_getD hx
  have := h j hj
  simpa using this
theorem Pl.great50_few {l : List Pl.Rf} (h : Pl.great50 l = false) : l.length ≤ 60 := by
  unfold Pl.great50 at h
  rw [Bool.or_eq_false_iff] at h
  have := h.1
  simpa using this
set_option maxRecDepth 100000 in
set_option maxHeartbeats 1000000 in
theorem great50_any (s : Value) (l : List Pl.Rf) (w : World) (hl : l.length ≤ 140737488355328) (h : SlV w 5 s l.length (rfCs l)) (hfit : ∀ x ∈ l, x.m.length ≤ 140737488355328 ∧ x.nm.length ≤ 140737488355328) :
    Calls Try.prog 11 #[s] w (Ret (.bool (Pl.great50 l)) w) := by
  obtain ⟨A, k, rfl, hr, -⟩ := h
  obtain ⟨F, hF⟩ : ∃ F, F = Pl.great50 l := ⟨_, rfl⟩
  rw [← hF]
  obtain ⟨N, hN⟩ : ∃ N, N = l.length := ⟨_, rfl⟩
  rw [← hN] at hr hl ⊢
  have HH := Lib.hid (And.intro hr (And.intro hF (And.intro hN hfit))); clear hr hF hN hfit
  by_cases h60 : 60 < N
  · have h60' : (60 : Int) < (N : Int) := by omega
    go_enter Try.func11, Try.ntmps11
    go_wp2_with fail
    go_ret
    refine ⟨?_, rfl⟩
    rw [HH.out.2.1, Pl.great50, decide_eq_true (by rw [← HH.out.2.2.1]; exact h60)]; rfl
  · have h60' : ¬ (60 : Int) < (N : Int) := by omega
    go_enter Try.func11, Try.ntmps11
    go_wp2_with fail
    go_loopw [3] (GrI l w) (fun i _ => N - (intOf i).toNat)
    case atStart => exact ⟨0, by omega, rfl, fun q hq => absurd hq (by omega), rfl⟩
    case round =>
      obtain ⟨j, hj, rfl, hq, rfl⟩ := hrel
      rw [← HH.out.2.2.1] at hj
      by_cases hjn : j < N
      · obtain ⟨b, off, rfl, hbw, hrf⟩ := HH.out.1.rf HH.out.2.2.1.symm hjn
        obtain ⟨y, hy⟩ : ∃ y, l.getD j default = y := ⟨_, rfl⟩
        obtain ⟨c0, c1, c2, c3, c4⟩ := hrf y hy
        obtain ⟨hf1, hf2⟩ := HH.out.2.2.2 y (by rw [← hy]; exact Pl.getD_mem l j (by rw [← HH.out.2.2.1]; exact hjn))
        obtain ⟨ym, yn, yt, ynm, ytil⟩ := y
        simp only at c0 c1 c2 c3 c4 hf1 hf2
        have j0 : (0 : Int) ≤ (j : Int) := by omega
        have j1 : (j : Int) < (N : Int) := by omega
        have HQ := Lib.hid (And.intro hq hy); clear hq hy hrf
        by_cases hm : 100 < ym.length
        · have hm' : (100 : Int) < (ym.length : Int) := by omega
          go_wp2_with fail
          go_ret
          refine ⟨?_, rfl⟩
          rw [HH.out.2.1, Pl.great50_yes (j := j) (by rw [← HH.out.2.2.1]; exact hjn) (by rw [HQ.out.2]; exact .inl hm)]
          rfl
        · have hm' : ¬ (100 : Int) < (ym.length : Int) := by omega
          by_cases hn : 200 < ynm.length
          · have hn' : (200 : Int) < (ynm.length : Int) := by omega
            go_wp2_with fail
            go_ret
            refine ⟨?_, rfl⟩
            rw [HH.out.2.1, Pl.great50_yes (j := j) (by rw [← HH.out.2.2.1]; exact hjn) (by rw [HQ.out.2]; exact .inr hn)]
            rfl
          · have hn' : ¬ (200 : Int) < (ynm.length : Int) := by omega
            go_wp2_with fail
            refine ⟨⟨j + 1, by rw [← HH.out.2.2.1]; omega, rfl, fun q hqj => ?_, rfl⟩, by simp [intOf]; omega⟩
            rcases Nat.lt_or_ge q j with h | h
            · exact HQ.out.1 q h
            · obtain rfl : q = j := by omega
              rw [HQ.out.2]
              exact fun h => h.elim hm hn
      · obtain rfl : j = N := by omega
        have HQ := Lib.hid hq; clear hq
        go_wp2_with fail
        go_ret
        refine ⟨?_, rfl⟩
        rw [HH.out.2.1, Pl.great50_no (by rw [← HH.out.2.2.1]; omega) (fun q hq => HQ.out q (by rw [HH.out.2.2.1]; exact hq))]
        rfl
end Go.Proofs.Yteamkiblogbfmaa
