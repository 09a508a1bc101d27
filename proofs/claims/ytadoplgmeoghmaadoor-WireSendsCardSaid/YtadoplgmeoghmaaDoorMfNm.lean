/- Plain Lean: the names of a snapshot's chunks, rising, each once: sorted and made compact, or put in one behind the other. No program in sight. -/
import Derived.Test.YtadoplgmeoghmaaDoorMfPl2
import Derived.Test.YtadoplgmeoghmaaDoorBase
import Derived.Lib.SlicesCompact
import Derived.Sort.Walk0
set_option linter.unusedVariables false
namespace Go.Proofs.YtadoplgmeoghmaaDoor.Pl
open Lib
abbrev Txt := List UInt8
theorem lt_less (a b : Txt) : a < b ↔ less a b = true := by
  unfold less
  rw [bytesLess_eq]; simp
theorem le_less (a b : Txt) : a ≤ b ↔ less b a = false := by
  rw [show a ≤ b ↔ ¬ b < a from Iff.rfl, lt_less]; simp
theorem less_le {a b c : Txt} (h : less b a = false) (h2 : less b c = true) : less a c = true := by
  rcases less_tri a b with h3 | h3 | h3
  · exact less_trans h3 h2
  · subst h3; exact h2
  · rw [h3] at h; cases h
theorem le_less_tr {a b c : Txt} (h : less a b = true) (h2 : less c b = false) : less a c = true := by
  rcases less_tri b c with h3 | h3 | h3
  · exact less_trans h h3
  · subst h3; exact h
  · rw [h3] at h2; cases h2
theorem le_trans' {a b c : Txt} (h : less b a = false) (h2 : less c b = false) : less c a = false := by
  cases h3 : less c a
  · rfl
  · have := less_le h2 h3
    rw [this] at h; cases h
def Rise (l : List Txt) : Prop := l.Pairwise fun a b => less a b = true
/-- Two rising lists with the same members are one. -/
theorem rise_eq : ∀ {l k : List Txt}, Rise l → Rise k → (∀ x, x ∈ l ↔ x ∈ k) → l = k
  | [], [], _, _, _ => rfl
  | [], y :: k, _, _, h => by have := (h y).2 (by simp); cases this
  | x :: l, [], _, _, h => by have := (h x).1 (by simp); cases this
  | x :: l, y :: k, hl, hk, h => by
    have hl' := List.pairwise_cons.1 hl
    have hk' := List.pairwise_cons.1 hk
    have e : x = y := by
      rcases less_tri x y with h1 | h1 | h1
      · have := (h x).1 (by simp)
        rcases List.mem_cons.1 this with h2 | h2
        · exact h2
        · have := hk'.1 x h2
          have := less_trans h1 this
          rw [less_irrefl] at this; cases this
      · exact h1
      · have := (h y).2 (by simp)
        rcases List.mem_cons.1 this with h2 | h2
        · exact h2.symm
        · have := hl'.1 y h2
          have := less_trans h1 this
          rw [less_irrefl] at this; cases this
    subst e
    congr 1
    refine rise_eq hl'.2 hk'.2 fun z => ?_
    constructor
    · intro hz
      have hx := hl'.1 z hz
      rcases List.mem_cons.1 ((h z).1 (List.mem_cons_of_mem _ hz)) with h2 | h2
      · subst h2; rw [less_irrefl] at hx; cases hx
      · exact h2
    · intro hz
      have hx := hk'.1 z hz
      rcases List.mem_cons.1 ((h z).2 (List.mem_cons_of_mem _ hz)) with h2 | h2
      · subst h2; rw [less_irrefl] at hx; cases hx
      · exact h2
/-- One round of the document's Insert. -/
def insR (s : Txt) (st : List Txt × Bool) (x : Txt) : List Txt × Bool :=
  let o := if st.2 = false ∧ less x s = false then st.1 ++ [s] else st.1
  (if x = s then o else o ++ [x], st.2 || !less x s)
def insF (l : List Txt) (s : Txt) : List Txt × Bool := l.foldl (insR s) ([], false)
def insE (st : List Txt × Bool) (s : Txt) : List Txt := if st.2 = false then st.1 ++ [s] else st.1
def insL (l : List Txt) (s : Txt) : List Txt := insE (insF l s) s
theorem insF_nil (s : Txt) : insF [] s = ([], false) := rfl
theorem insF_snoc (l : List Txt) (s x : Txt) : insF (l ++ [x]) s = insR s (insF l s) x := by unfold insF; rw [List.foldl_append]; rfl
theorem insF_take (l : List Txt) (s : Txt) (j : Nat) (h : j < l.length) : insF (l.take (j + 1)) s = insR s (insF (l.take j) s) l[j] := by
  rw [List.take_succ_eq_append_getElem h, insF_snoc]
theorem insR_len (s : Txt) (st : List Txt × Bool) (x : Txt) : (insR s st x).1.length ≤ st.1.length + 2 := by
  unfold insR
  dsimp only
  split <;> split <;> simp
theorem ins_done (s : Txt) : ∀ (l o : List Txt), l.foldl (insR s) (o, true) = (o ++ l.filter (fun x => decide (x ≠ s)), true)
  | [], o => by simp
  | x :: l, o => by
    rw [List.foldl_cons]
    have e : insR s (o, true) x = (if x = s then o else o ++ [x], true) := by simp [insR]
    rw [e, ins_done s l]
    by_cases h : x = s <;> simp [h]
theorem less_ne {a b : Txt} (h : less a b = true) : a ≠ b := by rintro rfl; rw [less_irrefl] at h; cases h
theorem less_asym {a b : Txt} (h : less a b = true) : less b a = false := by
  cases h2 : less b a
  · rfl
  · have := less_trans h h2; rw [less_irrefl] at this; cases this
theorem ins_open (s : Txt) : ∀ (l o : List Txt), Rise l → l.foldl (insR s) (o, false) = if ∃ x ∈ l, less x s = false then (o ++ (l.filter (less · s) ++ s :: l.filter (less s ·)), true) else (o ++ l.filter (less · s), false)
  | [], o, _ => by simp
  | x :: l, o, h => by
    have hc := List.pairwise_cons.1 h
    rw [List.foldl_cons]
    by_cases hx : less x s = true
    · have e : insR s (o, false) x = (o ++ [x], false) := by simp [insR, hx, less_ne hx]
      rw [e, ins_open s l _ hc.2]
      have h2 := less_asym hx
      by_cases ha : ∃ y ∈ l, less y s = false
      · rw [if_pos ha, if_pos (by obtain ⟨y, hy, hy2⟩ := ha; exact ⟨y, List.mem_cons_of_mem _ hy, hy2⟩)]
        simp [hx, h2]
      · rw [if_neg ha, if_neg (by
          rintro ⟨y, hy, hy2⟩
          rcases List.mem_cons.1 hy with rfl | hy
          · rw [hx] at hy2; cases hy2
          · exact ha ⟨y, hy, hy2⟩)]
        simp [hx]
    · have hx' : less x s = false := by simpa using hx
      have e : insR s (o, false) x = ((if x = s then o ++ [s] else o ++ [s] ++ [x]), true) := by simp [insR, hx']
      have hl : ∀ y ∈ l, less s y = true := fun y hy => less_le hx' (hc.1 y hy)
      have f1 : l.filter (fun x => decide (x ≠ s)) = l := List.filter_eq_self.2 fun y hy => by have := less_ne (hl y hy); simp; exact fun h => this h.symm
      have f2 : l.filter (less s ·) = l := List.filter_eq_self.2 fun y hy => hl y hy
      have f3 : l.filter (less · s) = [] := List.filter_eq_nil_iff.2 fun y hy => by rw [less_asym (hl y hy)]; simp
      have hp : ∃ y ∈ x :: l, less y s = false := ⟨x, by simp, hx'⟩
      rw [e, ins_done, f1, if_pos hp]
      by_cases hs : x = s
      · subst hs; simp [less_irrefl, f2, f3]
      · have : less s x = true := by
          rcases less_tri x s with h3 | h3 | h3
          · rw [h3] at hx'; cases hx'
          · exact absurd h3 hs
          · exact h3
        simp [hs, this, hx', f2, f3]
theorem insL_eq {l : List Txt} (h : Rise l) (s : Txt) : insL l s = l.filter (less · s) ++ s :: l.filter (less s ·) := by
  unfold insL insE insF
  rw [ins_open s l [] h]
  by_cases ha : ∃ x ∈ l, less x s = false
  · rw [if_pos ha]; simp
  · rw [if_neg ha]
    have hl : ∀ y ∈ l, less y s = true := fun y hy => by
      cases h2 : less y s
      · exact absurd ⟨y, hy, h2⟩ ha
      · rfl
    have f2 : l.filter (less s ·) = [] := List.filter_eq_nil_iff.2 fun y hy => by rw [less_asym (hl y hy)]; simp
    simp [f2]
theorem insL_mem {l : List Txt} (h : Rise l) (s x : Txt) : x ∈ insL l s ↔ x = s ∨ x ∈ l := by
  rw [insL_eq h, List.mem_append, List.mem_cons, List.mem_filter, List.mem_filter]
  constructor
  · rintro (h1 | h1 | h1)
    · exact .inr h1.1
    · exact .inl h1
    · exact .inr h1.1
  · rintro (h1 | h1)
    · exact .inr (.inl h1)
    · rcases less_tri x s with h2 | h2 | h2
      · exact .inl ⟨h1, h2⟩
      · exact .inr (.inl h2)
      · exact .inr (.inr ⟨h1, h2⟩)
theorem insL_rise {l : List Txt} (h : Rise l) (s : Txt) : Rise (insL l s) := by
  rw [insL_eq h]
  unfold Rise
  rw [List.pairwise_append, List.pairwise_cons]
  refine ⟨h.filter _, ⟨fun y hy => (List.mem_filter.1 hy).2, h.filter _⟩, fun a ha b hb => ?_⟩
  have h1 := (List.mem_filter.1 ha).2
  rcases List.mem_cons.1 hb with rfl | hb
  · exact h1
  · exact less_trans h1 (List.mem_filter.1 hb).2
/-- The document's names: one text put in behind the other. -/
def namesR (l : List Txt) : List Txt := l.foldl insL []
theorem namesR_take (l : List Txt) (j : Nat) (h : j < l.length) : namesR (l.take (j + 1)) = insL (namesR (l.take j)) l[j] := by
  unfold namesR; rw [List.take_succ_eq_append_getElem h, List.foldl_append]; rfl
theorem fold_ins : ∀ (l a : List Txt), Rise a → Rise (l.foldl insL a) ∧ ∀ x, x ∈ l.foldl insL a ↔ x ∈ a ∨ x ∈ l
  | [], a, h => ⟨h, fun x => by simp⟩
  | s :: l, a, h => by
    have ih := fold_ins l (insL a s) (insL_rise h s)
    refine ⟨ih.1, fun x => ?_⟩
    rw [List.foldl_cons, ih.2 x, insL_mem h, List.mem_cons]
    constructor
    · rintro ((h1 | h1) | h1)
      · exact .inr (.inl h1)
      · exact .inl h1
      · exact .inr (.inr h1)
    · rintro (h1 | h1 | h1)
      · exact .inl (.inr h1)
      · exact .inl (.inl h1)
      · exact .inr h1
theorem namesR_rise (l : List Txt) : Rise (namesR l) := (fold_ins l [] List.Pairwise.nil).1
theorem namesR_mem (l : List Txt) (x : Txt) : x ∈ namesR l ↔ x ∈ l := by
  have := (fold_ins l [] List.Pairwise.nil).2 x
  unfold namesR
  rw [this]; simp
theorem ins_two (l : List Txt) (s : Txt) : (l.filter (less · s)).length + (l.filter (less s ·)).length ≤ l.length := by
  induction l with
  | nil => simp
  | cons x l ih =>
    by_cases h1 : less x s = true
    · simp only [List.filter_cons, h1, less_asym h1, if_true, List.length_cons]; simp; omega
    · have h1' : less x s = false := by simpa using h1
      by_cases h2 : less s x = true
      · simp only [List.filter_cons, h1', h2, if_true, List.length_cons]; simp; omega
      · have h2' : less s x = false := by simpa using h2
        simp only [List.filter_cons, h1', h2', List.length_cons]; simp; omega
theorem insL_len {l : List Txt} (h : Rise l) (s : Txt) : (insL l s).length ≤ l.length + 1 := by
  rw [insL_eq h, List.length_append, List.length_cons, ← Nat.add_assoc]
  exact Nat.succ_le_succ (ins_two l s)
/-- The program's names: sorted, and made compact. -/
def sortT (l : List Txt) : List Txt := l.mergeSort fun x y => decide (x ≤ y)
def namesP (l : List Txt) : List Txt := compact (sortT l)
theorem sortT_sorted (l : List Txt) : (sortT l).Pairwise fun a b => less b a = false := by
  have := List.pairwise_mergeSort (le := fun x y : Txt => decide (x ≤ y)) (by
    intro a b c h1 h2
    simp only [decide_eq_true_eq, le_less] at h1 h2 ⊢
    exact le_trans' h1 h2) (by
    intro a b
    simp only [Bool.or_eq_true, decide_eq_true_eq, le_less]
    rcases less_tri a b with h | h | h
    · exact .inl (less_asym h)
    · subst h; exact .inl (less_irrefl _)
    · exact .inr (less_asym h)) l
  exact this.imp fun h => by simpa [le_less] using h
theorem sortT_mem (l : List Txt) (x : Txt) : x ∈ sortT l ↔ x ∈ l := List.mem_mergeSort
theorem sortT_len (l : List Txt) : (sortT l).length = l.length := List.length_mergeSort l
theorem upTo (d : Array Txt) (hs : d.toList.Pairwise fun a b => less b a = false) : ∀ m, m ≤ d.size → Rise (compactUpTo d m) ∧ (∀ x, x ∈ compactUpTo d m ↔ ∃ j, j < m ∧ d[j]! = x) ∧ (∀ x ∈ compactUpTo d m, 0 < m → less d[m - 1]! x = false)
  | 0, _ => by
    refine ⟨?_, fun x => ?_, fun x hx => ?_⟩
    · unfold compactUpTo; simp [Rise]
    · unfold compactUpTo; simp
    · unfold compactUpTo at hx; simp at hx
  | m + 1, hm => by
    obtain ⟨h1, h2, h3⟩ := upTo d hs m (by omega)
    have hord : 0 < m → less d[m]! d[m - 1]! = false := fun h0 => by
      have := List.pairwise_iff_getElem.1 hs (m - 1) m (by simp; omega) (by simp; omega) (by omega)
      simpa [getElem!_pos, show m < d.size by omega, show m - 1 < d.size by omega] using this
    rw [compactUpTo_succ]
    cases hk : keeps d m with
    | true =>
      rw [if_pos rfl]
      have hlt : ∀ x ∈ compactUpTo d m, less x d[m]! = true := by
        intro x hx
        have h0 : 0 < m := by
          rcases Nat.eq_zero_or_pos m with rfl | h0
          · unfold compactUpTo at hx; simp at hx
          · exact h0
        have hne : d[m]! ≠ d[m - 1]! := by
          unfold keeps at hk
          have := of_decide_eq_true hk
          rcases this with h | h
          · omega
          · exact h
        have hl : less d[m - 1]! d[m]! = true := by
          rcases less_tri d[m - 1]! d[m]! with h | h | h
          · exact h
          · exact absurd h.symm hne
          · rw [hord h0] at h; cases h
        exact less_le (h3 x hx h0) hl
      refine ⟨?_, fun x => ?_, fun x hx _ => ?_⟩
      · unfold Rise
        rw [List.pairwise_append]
        refine ⟨h1, by simp, fun a ha b hb => ?_⟩
        rw [List.mem_singleton] at hb
        subst hb
        exact hlt a ha
      · rw [List.mem_append, h2, List.mem_singleton]
        constructor
        · rintro (⟨j, hj, e⟩ | e)
          · exact ⟨j, by omega, e⟩
          · exact ⟨m, by omega, e.symm⟩
        · rintro ⟨j, hj, e⟩
          by_cases hjm : j = m
          · subst hjm; exact .inr e.symm
          · exact .inl ⟨j, by omega, e⟩
      · rw [List.mem_append, List.mem_singleton] at hx
        show less d[m]! x = false
        rcases hx with hx | hx
        · exact less_asym (hlt x hx)
        · subst hx; exact less_irrefl _
    | false =>
      rw [if_neg (by simp), List.append_nil]
      have h0 : 0 < m ∧ d[m]! = d[m - 1]! := by
        unfold keeps at hk
        have := of_decide_eq_false hk
        by_cases e : m = 0
        · exact absurd (.inl e) this
        · refine ⟨by omega, ?_⟩
          by_cases e2 : d[m]! = d[m - 1]!
          · exact e2
          · exact absurd (.inr e2) this
      refine ⟨h1, fun x => ?_, fun x hx _ => ?_⟩
      · rw [h2]
        constructor
        · rintro ⟨j, hj, e⟩; exact ⟨j, by omega, e⟩
        · rintro ⟨j, hj, e⟩
          by_cases hjm : j = m
          · subst hjm; exact ⟨j - 1, by omega, by rw [← h0.2]; exact e⟩
          · exact ⟨j, by omega, e⟩
      · show less d[m]! x = false
        rw [h0.2]; exact h3 x hx h0.1
theorem compact_rise {l : List Txt} (hs : l.Pairwise fun a b => less b a = false) : Rise (compact l) ∧ ∀ x, x ∈ compact l ↔ x ∈ l := by
  have h := upTo l.toArray (by simpa using hs) l.length (by simp)
  refine ⟨h.1, fun x => ?_⟩
  show x ∈ compactUpTo l.toArray l.length ↔ _
  rw [h.2.1]
  constructor
  · rintro ⟨j, hj, e⟩
    rw [← e]
    simp [getElem!_pos, hj]
  · intro hx
    obtain ⟨j, hj, e⟩ := List.getElem_of_mem hx
    exact ⟨j, hj, by simp [getElem!_pos, hj, e]⟩
theorem namesP_rise (l : List Txt) : Rise (namesP l) := (compact_rise (sortT_sorted l)).1
theorem namesP_mem (l : List Txt) (x : Txt) : x ∈ namesP l ↔ x ∈ l := by
  unfold namesP
  rw [(compact_rise (sortT_sorted l)).2, sortT_mem]
theorem namesP_R (l : List Txt) : namesP l = namesR l := rise_eq (namesP_rise l) (namesR_rise l) fun x => by rw [namesP_mem, namesR_mem]
/-- They don't hang on where the texts stand. -/
theorem namesP_perm {l k : List Txt} (h : ∀ x, x ∈ l ↔ x ∈ k) : namesP l = namesP k := rise_eq (namesP_rise l) (namesP_rise k) fun x => by rw [namesP_mem, namesP_mem, h]
end Go.Proofs.YtadoplgmeoghmaaDoor.Pl
