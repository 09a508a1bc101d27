/- Plain Lean: texts, sorted and made compact: rising, each once. No program in sight. -/
import Derived.Test.YtdnebgilkfafhaaGreatDoorShPlain
import Derived.Test.YtdnebgilkfafhaaGreatDoorBase
import Derived.Lib.SlicesCompact
import Derived.Sort.Walk0
set_option linter.unusedVariables false
namespace Go.Proofs.YtdnebgilkfafhaaGreatDoor.Pl.Nm
open Lib Go.Proofs.YtdnebgilkfafhaaGreatDoor.Pl
abbrev Txt := List UInt8
theorem lt_less (a b : Txt) : a < b ↔ less a b = true := by
  unfold less
  rw [bytesLess_eq]; simp
theorem le_less (a b : Txt) : a ≤ b ↔ less b a = false := by
  rw [show a ≤ b ↔ ¬ b < a from Iff.rfl, lt_less]; simp
theorem less_le {a b c : Txt} (h : less b a = false) (h2 : less b c = true) : less a c = true := by
  rcases less_tri a b with h3 | h3 | h3
  · exact less_trans h3 h2
  · subst h3; exact h2
  · rw [h3] at h; cases h
theorem le_less_tr {a b c : Txt} (h : less a b = true) (h2 : less c b = false) : less a c = true := by
  rcases less_tri b c with h3 | h3 | h3
  · exact less_trans h h3
  · subst h3; exact h
  · rw [h3] at h2; cases h2
theorem le_trans' {a b c : Txt} (h : less b a = false) (h2 : less c b = false) : less c a = false := by
  cases h3 : less c a
  · rfl
  · have := less_le h2 h3
    rw [this] at h; cases h
def Rise (l : List Txt) : Prop := l.Pairwise fun a b => less a b = true
/-- Two rising lists with the same members are one. -/
theorem rise_eq : ∀ {l k : List Txt}, Rise l → Rise k → (∀ x, x ∈ l ↔ x ∈ k) → l = k
  | [], [], _, _, _ => rfl
  | [], y :: k, _, _, h => by have := (h y).2 (by simp); cases this
  | x :: l, [], _, _, h => by have := (h x).1 (by simp); cases this
  | x :: l, y :: k, hl, hk, h => by
    have hl' := List.pairwise_cons.1 hl
    have hk' := List.pairwise_cons.1 hk
    have e : x = y := by
      rcases less_tri x y with h1 | h1 | h1
      · have := (h x).1 (by simp)
        rcases List.mem_cons.1 this with h2 | h2
        · exact h2
        · have := hk'.1 x h2
          have := less_trans h1 this
          rw [less_irrefl] at this; cases this
      · exact h1
      · have := (h y).2 (by simp)
        rcases List.mem_cons.1 this with h2 | h2
        · exact h2.symm
        · have := hl'.1 y h2
          have := less_trans h1 this
          rw [less_irrefl] at this; cases this
    subst e
    congr 1
    refine rise_eq hl'.2 hk'.2 fun z => ?_
    constructor
    · intro hz
      have hx := hl'.1 z hz
      rcases List.mem_cons.1 ((h z).1 (List.mem_cons_of_mem _ hz)) with h2 | h2
      · subst h2; rw [less_irrefl] at hx; cases hx
      · exact h2
    · intro hz
      have hx := hk'.1 z hz
      rcases List.mem_cons.1 ((h z).2 (List.mem_cons_of_mem _ hz)) with h2 | h2
      · subst h2; rw [less_irrefl] at hx; cases hx
      · exact h2
/-- One round of the document's Insert. -/
theorem less_ne {a b : Txt} (h : less a b = true) : a ≠ b := by rintro rfl; rw [less_irrefl] at h; cases h
theorem less_asym {a b : Txt} (h : less a b = true) : less b a = false := by
  cases h2 : less b a
  · rfl
  · have := less_trans h h2; rw [less_irrefl] at this; cases this
def sortT (l : List Txt) : List Txt := l.mergeSort fun x y => decide (x ≤ y)
def namesP (l : List Txt) : List Txt := compact (sortT l)
theorem sortT_sorted (l : List Txt) : (sortT l).Pairwise fun a b => less b a = false := by
  have := List.pairwise_mergeSort (le := fun x y : Txt => decide (x ≤ y)) (by
    intro a b c h1 h2
    simp only [decide_eq_true_eq, le_less] at h1 h2 ⊢
    exact le_trans' h1 h2) (by
    intro a b
    simp only [Bool.or_eq_true, decide_eq_true_eq, le_less]
    rcases less_tri a b with h | h | h
    · exact .inl (less_asym h)
    · subst h; exact .inl (less_irrefl _)
    · exact .inr (less_asym h)) l
  exact this.imp fun h => by simpa [le_less] using h
theorem sortT_mem (l : List Txt) (x : Txt) : x ∈ sortT l ↔ x ∈ l := List.mem_mergeSort
theorem sortT_len (l : List Txt) : (sortT l).length = l.length := List.length_mergeSort l
theorem upTo (d : Array Txt) (hs : d.toList.Pairwise fun a b => less b a = false) : ∀ m, m ≤ d.size → Rise (compactUpTo d m) ∧ (∀ x, x ∈ compactUpTo d m ↔ ∃ j, j < m ∧ d[j]! = x) ∧ (∀ x ∈ compactUpTo d m, 0 < m → less d[m - 1]! x = false)
  | 0, _ => by
    refine ⟨?_, fun x => ?_, fun x hx => ?_⟩
    · unfold compactUpTo; simp [Rise]
    · unfold compactUpTo; simp
    · unfold compactUpTo at hx; simp at hx
  | m + 1, hm => by
    obtain ⟨h1, h2, h3⟩ := upTo d hs m (by omega)
    have hord : 0 < m → less d[m]! d[m - 1]! = false := fun h0 => by
      have := List.pairwise_iff_getElem.1 hs (m - 1) m (by simp; omega) (by simp; omega) (by omega)
      simpa [getElem!_pos, show m < d.size by omega, show m - 1 < d.size by omega] using this
    rw [compactUpTo_succ]
    cases hk : keeps d m with
    | true =>
      rw [if_pos rfl]
      have hlt : ∀ x ∈ compactUpTo d m, less x d[m]! = true := by
        intro x hx
        have h0 : 0 < m := by
          rcases Nat.eq_zero_or_pos m with rfl | h0
          · unfold compactUpTo at hx; simp at hx
          · exact h0
        have hne : d[m]! ≠ d[m - 1]! := by
          unfold keeps at hk
          have := of_decide_eq_true hk
          rcases this with h | h
          · omega
          · exact h
        have hl : less d[m - 1]! d[m]! = true := by
          rcases less_tri d[m - 1]! d[m]! with h | h | h
          · exact h
          · exact absurd h.symm hne
          · rw [hord h0] at h; cases h
        exact less_le (h3 x hx h0) hl
      refine ⟨?_, fun x => ?_, fun x hx _ => ?_⟩
      · unfold Rise
        rw [List.pairwise_append]
        refine ⟨h1, by simp, fun a ha b hb => ?_⟩
        rw [List.mem_singleton] at hb
        subst hb
        exact hlt a ha
      · rw [List.mem_append, h2, List.mem_singleton]
        constructor
        · rintro (⟨j, hj, e⟩ | e)
          · exact ⟨j, by omega, e⟩
          · exact ⟨m, by omega, e.symm⟩
        · rintro ⟨j, hj, e⟩
          by_cases hjm : j = m
          · subst hjm; exact .inr e.symm
          · exact .inl ⟨j, by omega, e⟩
      · rw [List.mem_append, List.mem_singleton] at hx
        show less d[m]! x = false
        rcases hx with hx | hx
        · exact less_asym (hlt x hx)
        · subst hx; exact less_irrefl _
    | false =>
      rw [if_neg (by simp), List.append_nil]
      have h0 : 0 < m ∧ d[m]! = d[m - 1]! := by
        unfold keeps at hk
        have := of_decide_eq_false hk
        by_cases e : m = 0
        · exact absurd (.inl e) this
        · refine ⟨by omega, ?_⟩
          by_cases e2 : d[m]! = d[m - 1]!
          · exact e2
          · exact absurd (.inr e2) this
      refine ⟨h1, fun x => ?_, fun x hx _ => ?_⟩
      · rw [h2]
        constructor
        · rintro ⟨j, hj, e⟩; exact ⟨j, by omega, e⟩
        · rintro ⟨j, hj, e⟩
          by_cases hjm : j = m
          · subst hjm; exact ⟨j - 1, by omega, by rw [← h0.2]; exact e⟩
          · exact ⟨j, by omega, e⟩
      · show less d[m]! x = false
        rw [h0.2]; exact h3 x hx h0.1
theorem compact_rise {l : List Txt} (hs : l.Pairwise fun a b => less b a = false) : Rise (compact l) ∧ ∀ x, x ∈ compact l ↔ x ∈ l := by
  have h := upTo l.toArray (by simpa using hs) l.length (by simp)
  refine ⟨h.1, fun x => ?_⟩
  show x ∈ compactUpTo l.toArray l.length ↔ _
  rw [h.2.1]
  constructor
  · rintro ⟨j, hj, e⟩
    rw [← e]
    simp [getElem!_pos, hj]
  · intro hx
    obtain ⟨j, hj, e⟩ := List.getElem_of_mem hx
    exact ⟨j, hj, by simp [getElem!_pos, hj, e]⟩
theorem namesP_rise (l : List Txt) : Rise (namesP l) := (compact_rise (sortT_sorted l)).1
theorem namesP_mem (l : List Txt) (x : Txt) : x ∈ namesP l ↔ x ∈ l := by
  unfold namesP
  rw [(compact_rise (sortT_sorted l)).2, sortT_mem]
end Go.Proofs.YtdnebgilkfafhaaGreatDoor.Pl.Nm
