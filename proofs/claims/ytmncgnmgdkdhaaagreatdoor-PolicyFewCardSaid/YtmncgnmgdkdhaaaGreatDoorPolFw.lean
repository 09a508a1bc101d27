/- Plain Lean: of one machine no more unlike snapshots are kept than the four numbers are together. No program in sight. -/
import Derived.Test.YtmncgnmgdkdhaaaGreatDoorPolPl
namespace Go.Proofs.YtmncgnmgdkdhaaaGreatDoor.Pl
set_option linter.unusedVariables false
set_option linter.unusedSimpArgs false
theorem min_of {α : Type} (f : α → Int) : ∀ Q : List α, Q ≠ [] → ∃ q ∈ Q, ∀ r ∈ Q, f q ≤ f r
  | [], h => absurd rfl h
  | [a], _ => ⟨a, by simp, by simp⟩
  | a :: b :: Q, _ => by
    obtain ⟨q, h1, h2⟩ := min_of f (b :: Q) (by simp)
    rcases Int.le_total (f a) (f q) with h | h
    · refine ⟨a, by simp, fun r hr => ?_⟩
      rcases List.mem_cons.1 hr with rfl | hr
      · exact Int.le_refl _
      · exact Int.le_trans h (h2 r hr)
    · refine ⟨q, List.mem_cons_of_mem _ h1, fun r hr => ?_⟩
      rcases List.mem_cons.1 hr with rfl | hr
      · exact h
      · exact h2 r hr
def KeptAs (l : List Rf) (m : List UInt8) (k : Nat) (n : Int) (q : Int × Int) : Prop := ∃ x ∈ l, x.m = m ∧ q = (x.t, x.n) ∧ keptD l x k n = true
theorem keptAs_one {l : List Rf} {m : List UInt8} {k : Nat} {n : Int} {q r : Int × Int} (hq : KeptAs l m k n q) (hr : KeptAs l m k n r) (h : per k q.1 = per k r.1) : q = r := by
  obtain ⟨x, x1, x2, rfl, x4⟩ := hq
  obtain ⟨y, y1, y2, rfl, y4⟩ := hr
  unfold keptD at x4 y4
  rw [Bool.and_eq_true, Bool.not_eq_true'] at x4 y4
  have e1 : ltr y x = false := by
    rw [Bool.eq_false_iff]; intro e
    rw [beaten_iff.2 ⟨y, y1, y2.trans x2.symm, h.symm, e⟩] at x4
    exact absurd x4.1 (by simp)
  have e2 : ltr x y = false := by
    rw [Bool.eq_false_iff]; intro e
    rw [beaten_iff.2 ⟨x, x1, x2.trans y2.symm, h, e⟩] at y4
    exact absurd y4.1 (by simp)
  obtain ⟨h1, h2⟩ := ltr_eq e1 e2
  rw [h1, h2]
theorem few_kind {l : List Rf} {m : List UInt8} {k : Nat} {n : Int} (hn : 0 ≤ n) (Q : List (Int × Int)) (hnd : Q.Nodup) (hQ : ∀ q ∈ Q, KeptAs l m k n q) : (Q.length : Int) ≤ n := by
  by_cases hE : Q = []
  · subst hE; simpa using hn
  obtain ⟨q, h1, h2⟩ := min_of (fun q : Int × Int => per k q.1) Q hE
  obtain ⟨x, x1, x2, x3, x4⟩ := hQ q h1
  have hl : (above k l x).length < n := by
    unfold keptD at x4
    rw [Bool.and_eq_true, decide_eq_true_eq] at x4
    exact x4.2
  have hne : ∀ r ∈ Q.erase q, r ∈ Q ∧ r ≠ q := fun r hr => ⟨List.mem_of_mem_erase hr, fun e => by subst e; exact (List.Nodup.not_mem_erase hnd) hr⟩
  have hnd2 : ((Q.erase q).map fun r => per k r.1).Nodup := by
    unfold List.Nodup
    rw [List.pairwise_map]
    refine List.Pairwise.imp_of_mem (fun {a b} ha hb h e => ?_) (hnd.erase q)
    exact h (keptAs_one (hQ a (hne a ha).1) (hQ b (hne b hb).1) e)
  have := nodup_len ((Q.erase q).map fun r => per k r.1) (above k l x) hnd2 (fun p hp => by
    obtain ⟨r, hr, rfl⟩ := List.mem_map.1 hp
    obtain ⟨h3, h4⟩ := hne r hr
    obtain ⟨y, y1, y2, y3, y4⟩ := hQ r h3
    refine mem_above.2 ⟨y, y1, y2.trans x2.symm, by rw [y3], ?_⟩
    have h5 := h2 r h3
    have h6 : per k r.1 ≠ per k q.1 := fun e => h4 (keptAs_one (hQ r h3) (hQ q h1) e)
    rw [x3] at h5 h6
    dsimp only at h5 h6 ⊢
    omega)
  rw [List.length_map, List.length_erase_of_mem h1] at this
  have h0 : 0 < Q.length := List.length_pos_iff.2 hE
  omega
theorem split_four {α : Type} (f0 f1 f2 f3 : α → Bool) : ∀ Q : List α, (∀ q ∈ Q, (f0 q || f1 q || f2 q || f3 q) = true) → Q.length ≤ (Q.filter f0).length + (Q.filter f1).length + (Q.filter f2).length + (Q.filter f3).length
  | [], _ => by simp
  | q :: Q, h => by
    have ih := split_four f0 f1 f2 f3 Q fun r hr => h r (List.mem_cons_of_mem _ hr)
    have hq := h q (List.mem_cons_self ..)
    simp only [List.filter_cons, List.length_cons]
    have e : ∀ (b : Bool) (L : List α), (if b = true then q :: L else L).length = L.length + (if b then 1 else 0) := fun b L => by cases b <;> rfl
    rw [e, e, e, e]
    revert hq
    cases f0 q <;> cases f1 q <;> cases f2 q <;> cases f3 q <;> simp <;> omega
/-- Of one machine no more are kept than the numbers are together. -/
theorem few_all {p : Pol} (hp : polE p = 0) (h0 : 0 ≤ p.d ∧ 0 ≤ p.w ∧ 0 ≤ p.mo ∧ 0 ≤ p.y) {l : List Rf} {m : List UInt8} (Q : List (Int × Int)) (hnd : Q.Nodup) (hQ : ∀ q ∈ Q, ∃ x ∈ l, x.m = m ∧ q = (x.t, x.n) ∧ keptAny p l x = true) : (Q.length : Int) ≤ p.d + p.w + p.mo + p.y := by
  obtain ⟨F, hF⟩ : ∃ F : Nat → Int → (Int × Int) → Bool, ∀ k n q, F k n q = true ↔ KeptAs l m k n q := by
    classical
    exact ⟨fun k n q => decide (KeptAs l m k n q), fun k n q => by simp⟩
  have h := split_four (F 0 p.d) (F 1 p.w) (F 2 p.mo) (F 3 p.y) Q (fun q hq => by
    obtain ⟨x, x1, x2, x3, x4⟩ := hQ q hq
    unfold keptAny at x4
    simp only [Bool.or_eq_true] at x4 ⊢
    rcases x4 with ((x4 | x4) | x4) | x4
    · exact .inl (.inl (.inl ((hF _ _ _).2 ⟨x, x1, x2, x3, x4⟩)))
    · exact .inl (.inl (.inr ((hF _ _ _).2 ⟨x, x1, x2, x3, x4⟩)))
    · exact .inl (.inr ((hF _ _ _).2 ⟨x, x1, x2, x3, x4⟩))
    · exact .inr ((hF _ _ _).2 ⟨x, x1, x2, x3, x4⟩))
  have key : ∀ k n, 0 ≤ n → ((Q.filter (F k n)).length : Int) ≤ n := fun k n hn => few_kind hn _ (hnd.filter _) (fun q hq => (hF _ _ _).1 (List.mem_filter.1 hq).2)
  have k0 := key 0 p.d h0.1
  have k1 := key 1 p.w h0.2.1
  have k2 := key 2 p.mo h0.2.2.1
  have k3 := key 3 p.y h0.2.2.2
  omega
end Go.Proofs.YtmncgnmgdkdhaaaGreatDoor.Pl
