/- The walks of shelf.taken and the reference's fate. -/
import Derived.Test.YtnapokalopcdkaaShW3
namespace Go.Proofs.Ytnapokalopcdkaa
open Go.RowKit
set_option linter.unusedVariables false
set_option linter.unusedSimpArgs false

theorem Rd.tail1 {w : World} {b off n : Nat} {xs : List Value} {A : Option Addr} {x : Value} (h : Rd w 1 (some ⟨b, off, none⟩) (n + 1) (x :: xs)) (hA : n = 0 ∨ A = some ⟨b, off + 1, none⟩) : Rd w 1 A n xs := by
  have hl := h.1
  simp only [List.length_cons] at hl
  refine ⟨by omega, fun hn => ?_⟩
  obtain ⟨b', off', e, hb, hc⟩ := h.2 (by omega)
  injection e with e
  injection e with e1 e2
  subst e1 e2
  rcases hA with h0 | rfl
  · omega
  · refine ⟨b, off + 1, rfl, hb, fun j hj => ?_⟩
    have := hc (j + 1) (by simp only [List.length_cons]; omega)
    rw [show off + 1 + j = off + (j + 1) by omega, this]
    rfl
/-- A slice in memory, with its capacity. -/
def SlAt (w : World) (k : Nat) (A : Option Addr) (n c : Nat) (xs : List Value) : Prop := Rd w k A n xs ∧ n ≤ c ∧ c ≤ 9223372036854775807 ∧ (A = none → c = 0)
theorem SlAt.below {w w' : World} {k : Nat} {A : Option Addr} {n c : Nat} {xs : List Value} (h : SlAt w k A n c xs) (hb : Below w.heap.size w w') : SlAt w' k A n c xs := ⟨h.1.below hb, h.2⟩
theorem SlAt.alloc {w : World} {k : Nat} {A : Option Addr} {n c : Nat} {xs : List Value} (h : SlAt w k A n c xs) (o : Obj) : SlAt (w.alloc o) k A n c xs := ⟨h.1.alloc o, h.2⟩
/-- A store into a block where the slice doesn't lie. -/
theorem Rd.set {w : World} {k : Nat} {A : Option Addr} {n : Nat} {xs : List Value} (h : Rd w k A n xs) {B : Nat} (hA : A.map Addr.block ≠ some B) (i : Nat) (u : Value) : Rd (w.setCell ⟨B, i, none⟩ u) k A n xs := by
  refine ⟨h.1, fun hn => ?_⟩
  obtain ⟨b, off, rfl, hb, hc⟩ := h.2 hn
  refine ⟨b, off, rfl, by simpa [World.size_setCell] using hb, fun j hj => ?_⟩
  rw [World.cell?_setCell_far _ _ _ _ (by simpa using Ne.symm hA)]
  exact hc j hj
theorem SlAt.set {w : World} {k : Nat} {A : Option Addr} {n c : Nat} {xs : List Value} (h : SlAt w k A n c xs) {B : Nat} (hA : A.map Addr.block ≠ some B) (i : Nat) (u : Value) : SlAt (w.setCell ⟨B, i, none⟩ u) k A n c xs := ⟨h.1.set hA i u, h.2⟩
/-- The fate that is taken, and what is left. -/
def TakenOut (A : Option Addr) (n c : Nat) (A' : Option Addr) (F : List Int) (f : Int) (v : Value) (w : World) : Prop :=
  ∃ A2 c2, v = .tuple #[.agg #[.slice A n c, .slice A2 F.tail.length c2], .int .i64 f] ∧ SlAt w 1 A2 F.tail.length c2 (ints F.tail) ∧ A2.map Addr.block = A'.map Addr.block

set_option maxRecDepth 100000 in
set_option maxHeartbeats 1000000 in
theorem taken_any (A A' : Option Addr) (n c m c' : Nat) (F : List Int) (w : World) (hm : F.length = m) (hr0 : SlAt w 1 A' m c' (ints F)) :
    Calls Try.prog 26 #[.agg #[.slice A n c, .slice A' m c']] w (RetB (TakenOut A n c A' F (F.headD 0)) w) := by
  obtain ⟨hr, hc, hc', hnil⟩ := hr0
  cases F with
  | nil =>
    obtain rfl : m = 0 := hm.symm
    clear hm
    go_enter Try.func26, Try.ntmps26
    go_wp2_with fail
    refine bodyPost_ret (v := .tuple #[.agg #[.slice A n c, .slice A' 0 c'], .int .i64 0]) (by simp [results, Try.results26, go_sem]) rfl ?_
    refine ⟨_, rfl, ⟨A', c', rfl, ⟨Rd.zero, hc, hc', hnil⟩, rfl⟩, ?_⟩
    exact ((Below.refl _ _).alloc (Nat.le_refl _) _).alloc (by simp) _
  | cons f F =>
    obtain ⟨k, rfl⟩ : ∃ k, m = k + 1 := ⟨F.length, hm.symm⟩
    have hFk : F.length = k := by simpa using hm
    obtain ⟨b, off, rfl, hb, hcell⟩ := hr.2 (by omega)
    clear hnil
    have hc0 : w.cell? ⟨b, off, none⟩ = some (.int .i64 f) := hcell 0 (by simp [ints])
    have hne : ((k + 1 : Nat) : Int) ≠ 0 := by omega
    have hz : (((k + 1 : Nat) : Int) == 0) = false := beq_eq_false_iff_ne.2 hne
    have hz2 : (((k : Int) + 1) == 0) = false := beq_eq_false_iff_ne.2 (by omega)
    have i1 : (1 : Int) ≤ (k : Int) + 1 := by omega
    have i2 : (k : Int) + 1 ≤ (c' : Int) := by omega
    have HF := Lib.hid (And.intro hm hFk); clear hm hFk hcell hne
    by_cases hc1 : c' = 1
    · have hk0 : k = 0 := by omega
      subst hk0 hc1
      go_enter Try.func26, Try.ntmps26
      go_wp2_with fail
      refine bodyPost_ret (v := .tuple #[.agg #[.slice A n c, .slice (some ⟨b, off, none⟩) 0 0], .int .i64 f]) (by simp [results, Try.results26, go_sem]) rfl ?_
      have hb2 : Below w.heap.size w ((w.alloc (.cells #[.slice A n c, .slice (some ⟨b, off, none⟩) 0 0] 25)).alloc (.cells #[.slice A n c, .slice (some ⟨b, off, none⟩) 0 0] 25)) := ((Below.refl _ _).alloc (Nat.le_refl _) _).alloc (by simp) _
      refine ⟨_, rfl, ⟨some ⟨b, off, none⟩, 0, ?_, ⟨?_, ?_, by omega, fun e => by cases e⟩, rfl⟩, hb2⟩
      · rw [List.tail_cons, HF.out.2]; rfl
      · rw [List.tail_cons, HF.out.2]; exact (Rd.tail1 hr (by first | exact .inl rfl | exact .inr rfl)).below hb2
      · rw [List.tail_cons, HF.out.2]; omega
    · have hc2 : 1 < c' := by omega
      go_enter Try.func26, Try.ntmps26
      go_wp2_with fail
      refine bodyPost_ret (v := .tuple #[.agg #[.slice A n c, .slice (some ⟨b, off + 1, none⟩) k (c' - 1)], .int .i64 f]) (by simp [results, Try.results26, go_sem]) rfl ?_
      have hb2 : Below w.heap.size w ((w.alloc (.cells #[.slice A n c, .slice (some ⟨b, off + 1, none⟩) k (c' - 1)] 25)).alloc (.cells #[.slice A n c, .slice (some ⟨b, off + 1, none⟩) k (c' - 1)] 25)) := ((Below.refl _ _).alloc (Nat.le_refl _) _).alloc (by simp) _
      refine ⟨_, rfl, ⟨some ⟨b, off + 1, none⟩, (c' - 1), ?_, ⟨?_, ?_, by omega, fun e => by cases e⟩, rfl⟩, hb2⟩
      · rw [List.tail_cons, HF.out.2]; rfl
      · rw [List.tail_cons, HF.out.2]; exact (Rd.tail1 hr (by first | exact .inl rfl | exact .inr rfl)).below hb2
      · rw [List.tail_cons, HF.out.2]; omega
/-- A fate, read as one of the five. -/
def nf (f : Int) : Int := if f < 0 ∨ 4 < f then 0 else f
set_option maxRecDepth 100000 in
set_option maxHeartbeats 1000000 in
theorem fate_any (A A' : Option Addr) (n c m c' : Nat) (F : List Int) (w : World) (hm : F.length = m) (hr0 : SlAt w 1 A' m c' (ints F)) :
    Calls Try.prog 33 #[.agg #[.slice A n c, .slice A' m c']] w (RetB (TakenOut A n c A' F (nf (F.headD 0))) w) := by
  obtain ⟨hr, hc, hc', hnil⟩ := hr0
  cases F with
  | nil =>
    obtain rfl : m = 0 := hm.symm
    clear hm
    go_enter Try.func33, Try.ntmps33
    go_wp2_with fail
    refine bodyPost_ret (v := .tuple #[.agg #[.slice A n c, .slice A' 0 c'], .int .i64 0]) (by simp [results, Try.results33, go_sem]) rfl ?_
    refine ⟨_, rfl, ⟨A', c', rfl, ⟨Rd.zero, hc, hc', hnil⟩, rfl⟩, ?_⟩
    exact ((Below.refl _ _).alloc (Nat.le_refl _) _).alloc (by simp) _
  | cons f F =>
    obtain ⟨k, rfl⟩ : ∃ k, m = k + 1 := ⟨F.length, hm.symm⟩
    have hFk : F.length = k := by simpa using hm
    obtain ⟨b, off, rfl, hb, hcell⟩ := hr.2 (by omega)
    clear hnil
    have hc0 : w.cell? ⟨b, off, none⟩ = some (.int .i64 f) := hcell 0 (by simp [ints])
    have hne : ((k + 1 : Nat) : Int) ≠ 0 := by omega
    have hz : (((k + 1 : Nat) : Int) == 0) = false := beq_eq_false_iff_ne.2 hne
    have hz2 : (((k : Int) + 1) == 0) = false := beq_eq_false_iff_ne.2 (by omega)
    have i1 : (1 : Int) ≤ (k : Int) + 1 := by omega
    have i2 : (k : Int) + 1 ≤ (c' : Int) := by omega
    have HF := Lib.hid (And.intro hm hFk); clear hm hFk hcell hne
    have hnf : (nf ((f :: F).headD 0)) = nf f := rfl
    rw [hnf]
    obtain ⟨g, hg⟩ : ∃ g, nf f = g := ⟨_, rfl⟩
    rw [hg]
    have hgf : (g = 0 ∧ (f < 0 ∨ 4 < f)) ∨ (g = f ∧ 0 ≤ f ∧ f ≤ 4) := by rw [← hg]; unfold nf; split <;> omega
    clear hg hnf
    by_cases hc1 : c' = 1
    · have hk0 : k = 0 := by omega
      subst hk0 hc1
      rcases hgf with ⟨rfl, hf⟩ | ⟨rfl, hf, hf4⟩
      · go_enter Try.func33, Try.ntmps33
        go_wp2_with fail
        all_goals try (exfalso; omega)
        all_goals
          refine bodyPost_ret (v := .tuple #[.agg #[.slice A n c, .slice (some ⟨b, off, none⟩) 0 0], .int .i64 0]) (by simp [results, Try.results33, go_sem]) rfl ?_
          have hb2 : Below w.heap.size w ((w.alloc (.cells #[.slice A n c, .slice (some ⟨b, off, none⟩) 0 0] 25)).alloc (.cells #[.slice A n c, .slice (some ⟨b, off, none⟩) 0 0] 25)) := ((Below.refl _ _).alloc (Nat.le_refl _) _).alloc (by simp) _
          refine ⟨_, rfl, ⟨some ⟨b, off, none⟩, 0, ?_, ⟨?_, ?_, by omega, fun e => by cases e⟩, rfl⟩, hb2⟩
          · rw [List.tail_cons, HF.out.2]
          · rw [List.tail_cons, HF.out.2]; exact (Rd.tail1 hr (by first | exact .inl rfl | exact .inr rfl)).below hb2
          · rw [List.tail_cons, HF.out.2]; omega
      · go_enter Try.func33, Try.ntmps33
        go_wp2_with fail
        all_goals try (exfalso; omega)
        all_goals
          refine bodyPost_ret (v := .tuple #[.agg #[.slice A n c, .slice (some ⟨b, off, none⟩) 0 0], .int .i64 g]) (by simp [results, Try.results33, go_sem]) rfl ?_
          have hb2 : Below w.heap.size w ((w.alloc (.cells #[.slice A n c, .slice (some ⟨b, off, none⟩) 0 0] 25)).alloc (.cells #[.slice A n c, .slice (some ⟨b, off, none⟩) 0 0] 25)) := ((Below.refl _ _).alloc (Nat.le_refl _) _).alloc (by simp) _
          refine ⟨_, rfl, ⟨some ⟨b, off, none⟩, 0, ?_, ⟨?_, ?_, by omega, fun e => by cases e⟩, rfl⟩, hb2⟩
          · rw [List.tail_cons, HF.out.2]
          · rw [List.tail_cons, HF.out.2]; exact (Rd.tail1 hr (by first | exact .inl rfl | exact .inr rfl)).below hb2
          · rw [List.tail_cons, HF.out.2]; omega
    · have hc2 : 1 < c' := by omega
      rcases hgf with ⟨rfl, hf⟩ | ⟨rfl, hf, hf4⟩
      · go_enter Try.func33, Try.ntmps33
        go_wp2_with fail
        all_goals try (exfalso; omega)
        all_goals
          refine bodyPost_ret (v := .tuple #[.agg #[.slice A n c, .slice (some ⟨b, off + 1, none⟩) k (c' - 1)], .int .i64 0]) (by simp [results, Try.results33, go_sem]) rfl ?_
          have hb2 : Below w.heap.size w ((w.alloc (.cells #[.slice A n c, .slice (some ⟨b, off + 1, none⟩) k (c' - 1)] 25)).alloc (.cells #[.slice A n c, .slice (some ⟨b, off + 1, none⟩) k (c' - 1)] 25)) := ((Below.refl _ _).alloc (Nat.le_refl _) _).alloc (by simp) _
          refine ⟨_, rfl, ⟨some ⟨b, off + 1, none⟩, (c' - 1), ?_, ⟨?_, ?_, by omega, fun e => by cases e⟩, rfl⟩, hb2⟩
          · rw [List.tail_cons, HF.out.2]
          · rw [List.tail_cons, HF.out.2]; exact (Rd.tail1 hr (by first | exact .inl rfl | exact .inr rfl)).below hb2
          · rw [List.tail_cons, HF.out.2]; omega
      · go_enter Try.func33, Try.ntmps33
        go_wp2_with fail
        all_goals try (exfalso; omega)
        all_goals
          refine bodyPost_ret (v := .tuple #[.agg #[.slice A n c, .slice (some ⟨b, off + 1, none⟩) k (c' - 1)], .int .i64 g]) (by simp [results, Try.results33, go_sem]) rfl ?_
          have hb2 : Below w.heap.size w ((w.alloc (.cells #[.slice A n c, .slice (some ⟨b, off + 1, none⟩) k (c' - 1)] 25)).alloc (.cells #[.slice A n c, .slice (some ⟨b, off + 1, none⟩) k (c' - 1)] 25)) := ((Below.refl _ _).alloc (Nat.le_refl _) _).alloc (by simp) _
          refine ⟨_, rfl, ⟨some ⟨b, off + 1, none⟩, (c' - 1), ?_, ⟨?_, ?_, by omega, fun e => by cases e⟩, rfl⟩, hb2⟩
          · rw [List.tail_cons, HF.out.2]
          · rw [List.tail_cons, HF.out.2]; exact (Rd.tail1 hr (by first | exact .inl rfl | exact .inr rfl)).below hb2
          · rw [List.tail_cons, HF.out.2]; omega
end Go.Proofs.Ytnapokalopcdkaa
