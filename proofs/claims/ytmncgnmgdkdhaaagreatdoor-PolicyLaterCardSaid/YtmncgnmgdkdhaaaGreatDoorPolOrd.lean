/- Plain Lean: the order of a list's places, machine by machine, the latest one first; what the marks of each machine's places make. No program in sight. -/
import Derived.Test.YtmncgnmgdkdhaaaGreatDoorPolPl
import Derived.Test.YtmncgnmgdkdhaaaGreatDoorBase
import Derived.Shelf.SlSortCmp.Insertion
set_option linter.unusedVariables false
namespace Go.Proofs.YtmncgnmgdkdhaaaGreatDoor.Pl
open Go.Proofs
/-- What the order says of two places. -/
def cmpR (x y : Rf) (i j : Int) : Int :=
  if Lib.compareBytes x.m y.m ≠ 0 then Lib.compareBytes x.m y.m else if Lib.compareInt y.t x.t ≠ 0 then Lib.compareInt y.t x.t else if Lib.compareInt y.n x.n ≠ 0 then Lib.compareInt y.n x.n else Lib.compareInt i j
theorem cInt (a b : Int) : (Lib.compareInt a b < 0 ↔ a < b) ∧ (Lib.compareInt a b ≠ 0 ↔ a ≠ b) := by
  unfold Lib.compareInt
  by_cases h : a < b
  · rw [if_pos h]; exact ⟨⟨fun _ => h, fun _ => by decide⟩, ⟨fun _ => by omega, fun _ => by decide⟩⟩
  · rw [if_neg h]
    by_cases g : a > b
    · rw [if_pos g]; exact ⟨⟨fun e => absurd e (by decide), fun e => absurd e h⟩, ⟨fun _ => by omega, fun _ => by decide⟩⟩
    · rw [if_neg g]; exact ⟨⟨fun e => absurd e (by decide), fun e => absurd e h⟩, ⟨fun e => absurd rfl e, fun e => by omega⟩⟩
theorem cStr (a b : List UInt8) : (Lib.compareBytes a b < 0 ↔ less a b = true) ∧ (Lib.compareBytes a b ≠ 0 ↔ a ≠ b) := by
  obtain ⟨h1, h2, h3⟩ := less_cmp a b
  constructor
  · rw [h1]
    rcases h3 with h | h | h <;> rw [h] <;> decide
  · rw [ne_eq, ne_eq, h2]
theorem cmpR_lt (x y : Rf) (i j : Int) : cmpR x y i j < 0 ↔ (less x.m y.m = true ∨ x.m = y.m ∧ (y.t < x.t ∨ x.t = y.t ∧ (y.n < x.n ∨ x.n = y.n ∧ i < j))) := by
  unfold cmpR
  by_cases h1 : x.m = y.m
  · have hl : less x.m y.m = false := by rw [h1]; exact less_irrefl _
    rw [if_neg (fun e => (cStr _ _).2.1 e h1)]
    by_cases h2 : x.t = y.t
    · rw [if_neg (fun e => (cInt _ _).2.1 e h2.symm)]
      by_cases h3 : x.n = y.n
      · rw [if_neg (fun e => (cInt _ _).2.1 e h3.symm), (cInt i j).1, hl]
        simp only [h1, h2, h3, Int.lt_irrefl, false_or, true_and, Bool.false_eq_true]
      · rw [if_pos ((cInt _ _).2.2 (fun e => h3 e.symm)), (cInt _ _).1, hl]
        simp only [h1, h2, h3, Int.lt_irrefl, false_or, true_and, Bool.false_eq_true, false_and, or_false]
    · rw [if_pos ((cInt _ _).2.2 (fun e => h2 e.symm)), (cInt _ _).1, hl]
      simp only [h1, h2, false_or, true_and, Bool.false_eq_true, false_and, or_false]
  · rw [if_pos ((cStr _ _).2.2 h1), (cStr _ _).1]
    simp only [h1, false_and, or_false]
theorem cmpR_irrefl (x : Rf) (i : Int) : ¬ cmpR x x i i < 0 := by
  rw [cmpR_lt, less_irrefl]; simp
theorem cmpR_trans {x y z : Rf} {i j k : Int} (h1 : cmpR x y i j < 0) (h2 : cmpR y z j k < 0) : cmpR x z i k < 0 := by
  rw [cmpR_lt] at h1 h2 ⊢
  rcases h1 with h1 | ⟨e1, h1⟩ <;> rcases h2 with h2 | ⟨e2, h2⟩
  · exact .inl (less_trans h1 h2)
  · exact .inl (by rw [← e2]; exact h1)
  · exact .inl (by rw [e1]; exact h2)
  · exact .inr ⟨e1.trans e2, by omega⟩
theorem cmpR_tri {x y : Rf} {i j : Int} (hij : i = j → x = y) (h1 : ¬ cmpR x y i j < 0) (h2 : ¬ cmpR y x j i < 0) : i = j := by
  rw [cmpR_lt] at h1 h2
  rcases less_tri x.m y.m with h | h | h
  · exact absurd (.inl h) h1
  · have a1 : ¬ (y.t < x.t ∨ x.t = y.t ∧ (y.n < x.n ∨ x.n = y.n ∧ i < j)) := fun e => h1 (.inr ⟨h, e⟩)
    have a2 : ¬ (x.t < y.t ∨ y.t = x.t ∧ (x.n < y.n ∨ y.n = x.n ∧ j < i)) := fun e => h2 (.inr ⟨h.symm, e⟩)
    omega
  · exact absurd (.inl h) h2
/-- The order of the places of a list, as the sort asks it. -/
def cfR (l : List Rf) (i j : Fin l.length) : Int := cmpR l[i] l[j] (i.val : Int) (j.val : Int)
theorem cfR_swo (l : List Rf) : Go.Sort.SWO (ltOf (cfR l)) where
  irrefl x := decide_eq_false (cmpR_irrefl _ _)
  trans x y z h1 h2 := decide_eq_true (cmpR_trans (of_decide_eq_true h1) (of_decide_eq_true h2))
  ntrans x y z h1 h2 := by
    have g1 := of_decide_eq_false h1
    have g2 := of_decide_eq_false h2
    refine decide_eq_false fun g3 => ?_
    have t1 : ∀ a b : Fin l.length, ¬ cfR l a b < 0 → cfR l b a < 0 ∨ a = b := by
      intro a b hab
      by_cases hba : cfR l b a < 0
      · exact .inl hba
      · right
        have := cmpR_tri (i := (a.val : Int)) (j := (b.val : Int)) (fun e => by have : a = b := Fin.ext (by omega); rw [this]) hab hba
        exact Fin.ext (by omega)
    rcases t1 x y g1 with a | rfl
    · rcases t1 y z g2 with b | rfl
      · exact cmpR_irrefl _ _ (cmpR_trans (cmpR_trans b a) g3)
      · exact cmpR_irrefl _ _ (cmpR_trans a g3)
    · exact g2 g3
structure Ord (l : List Rf) (o : List Nat) : Prop where
  len : o.length = l.length
  nodup : o.Nodup
  lt : ∀ j ∈ o, j < l.length
  all : ∀ j, j < l.length → j ∈ o
  mach : o.Pairwise (fun i j => less (l.getD j default).m (l.getD i default).m = false)
  late : o.Pairwise (fun i j => (l.getD i default).m = (l.getD j default).m → ltr (l.getD j default) (l.getD i default) = false)
theorem getD_fin (l : List Rf) (i : Fin l.length) : l.getD i.val default = l[i] := by
  rw [List.getD_eq_getElem?_getD, List.getElem?_eq_getElem i.isLt]; rfl
theorem ord_of {l : List Rf} (L : List (Fin l.length)) (hp : L.Perm (List.finRange l.length)) (hs : L.Pairwise (fun i j => ¬ cfR l j i < 0)) : Ord l (L.map Fin.val) := by
  have hfin : ∀ n, (List.finRange n).map Fin.val = List.range n := by
    intro n
    apply List.ext_getElem
    · simp
    · intro i h1 h2; simp
  refine ⟨by rw [List.length_map, hp.length_eq, List.length_finRange], ?_, ?_, ?_, ?_, ?_⟩
  · have := (hp.map Fin.val)
    rw [hfin] at this
    exact this.nodup_iff.2 List.nodup_range
  · intro j hj
    obtain ⟨x, _, rfl⟩ := List.mem_map.1 hj
    exact x.isLt
  · intro j hj
    exact List.mem_map.2 ⟨⟨j, hj⟩, hp.mem_iff.2 (List.mem_finRange _), rfl⟩
  · rw [List.pairwise_map]
    refine hs.imp fun {i j} h => ?_
    rw [getD_fin, getD_fin]
    cases hc : less l[j].m l[i].m
    · rfl
    · exact absurd ((cmpR_lt _ _ _ _).2 (.inl hc)) h
  · rw [List.pairwise_map]
    refine hs.imp fun {i j} h hm => ?_
    rw [getD_fin, getD_fin] at hm ⊢
    rw [ltr_no]
    intro g
    exact h ((cmpR_lt _ _ _ _).2 (.inr ⟨hm.symm, by omega⟩))
/-- The machine of the place q of an order. -/
def mach (l : List Rf) (o : List Nat) (q : Nat) : List UInt8 := (l.getD (o.getD q 0) default).m
structure Grp (l : List Rf) (o : List Nat) (a b : Nat) : Prop where
  lt : a < b
  le : b ≤ o.length
  one : ∀ q, a ≤ q → q < b → mach l o q = mach l o a
  start : a = 0 ∨ mach l o (a - 1) ≠ mach l o a
  stop : b = o.length ∨ mach l o b ≠ mach l o a
theorem getD_at (o : List Nat) (q : Nat) (h : q < o.length) : o.getD q 0 = o[q] := by
  rw [List.getD_eq_getElem?_getD, List.getElem?_eq_getElem h]; rfl
theorem ord_mach_le {l : List Rf} {o : List Nat} (h : Ord l o) {p q : Nat} (hpq : p ≤ q) (hq : q < o.length) : less (mach l o q) (mach l o p) = false := by
  rcases Nat.lt_or_ge p q with g | g
  · have := List.pairwise_iff_getElem.1 h.mach p q (by omega) hq g
    unfold mach
    rw [getD_at o q hq, getD_at o p (by omega)]
    exact this
  · have : p = q := by omega
    subst this; exact less_irrefl _
theorem less_anti {a b : List UInt8} (h1 : less a b = false) (h2 : less b a = false) : a = b := by
  rcases less_tri a b with h | h | h
  · rw [h] at h1; cases h1
  · exact h
  · rw [h] at h2; cases h2
/-- The places of one machine's group. -/
def grp (o : List Nat) (a b : Nat) : List Nat := (o.drop a).take (b - a)
theorem mem_grp {o : List Nat} {a b j : Nat} (hb : b ≤ o.length) : j ∈ grp o a b ↔ ∃ q, a ≤ q ∧ q < b ∧ o[q]? = some j := by
  unfold grp
  rw [List.mem_iff_getElem?]
  constructor
  · rintro ⟨q, hq⟩
    rw [List.getElem?_take] at hq
    split at hq
    · rw [List.getElem?_drop] at hq
      exact ⟨a + q, by omega, by omega, hq⟩
    · cases hq
  · rintro ⟨q, h1, h2, h3⟩
    refine ⟨q - a, ?_⟩
    rw [List.getElem?_take, if_pos (by omega), List.getElem?_drop, show a + (q - a) = q by omega]; exact h3
theorem mach_at {l : List Rf} {o : List Nat} {q j : Nat} (h : o[q]? = some j) : mach l o q = (l.getD j default).m := by
  have e : o.getD q 0 = j := by rw [List.getD_eq_getElem?_getD, h]; rfl
  unfold mach; rw [e]
theorem grp_sub {o : List Nat} {a b : Nat} : (grp o a b).Sublist o := (List.take_sublist _ _).trans (List.drop_sublist _ _)
/-- What the four marks make of one machine's places. -/
def marks (p : Pol) (l : List Rf) (g : List Nat) (K : List Bool) : List Bool :=
  markF 3 l p.y g [] (0, 0) (markF 2 l p.mo g [] (0, 0) (markF 1 l p.w g [] (0, 0) (markF 0 l p.d g [] (0, 0) K)))
theorem Grp.marks {l : List Rf} {o : List Nat} {a b : Nat} (hG : Grp l o a b) (hO : Ord l o) (p : Pol) (K : List Bool) (hK : K.length = l.length) (h : ∀ i, i < l.length → K.getD i false = (decide (i ∈ o.take a) && keptAny p l (l.getD i default))) :
    (Pl.marks p l (grp o a b) K).length = l.length ∧ ∀ i, i < l.length → (Pl.marks p l (grp o a b) K).getD i false = (decide (i ∈ o.take b) && keptAny p l (l.getD i default)) := by
  have hnd : (grp o a b).Nodup := hO.nodup.sublist grp_sub
  have hin : ∀ j ∈ grp o a b, j < l.length ∧ (l.getD j default).m = mach l o a := by
    intro j hj
    obtain ⟨q, h1, h2, h3⟩ := (mem_grp hG.le).1 hj
    refine ⟨hO.lt j (List.mem_of_getElem? h3), ?_⟩
    rw [← mach_at h3]; exact hG.one q h1 h2
  have hall : ∀ j, j < l.length → (l.getD j default).m = mach l o a → j ∈ grp o a b := by
    intro j hj hm
    obtain ⟨q, hq, e⟩ := List.getElem_of_mem (hO.all j hj)
    have h3 : o[q]? = some j := by rw [List.getElem?_eq_getElem hq, e]
    have hmq : mach l o q = mach l o a := by rw [mach_at h3]; exact hm
    refine (mem_grp hG.le).2 ⟨q, ?_, ?_, h3⟩
    · rcases Nat.lt_or_ge q a with g | g
      · exfalso
        rcases hG.start with h0 | h0
        · omega
        · have l1 := ord_mach_le hO (p := q) (q := a - 1) (by omega) (by have := hG.lt; have := hG.le; omega)
          have l2 := ord_mach_le hO (p := a - 1) (q := a) (by omega) (by have := hG.lt; have := hG.le; omega)
          rw [hmq] at l1
          exact h0 (less_anti l1 l2)
      · exact g
    · rcases Nat.lt_or_ge q b with g | g
      · exact g
      · exfalso
        rcases hG.stop with h0 | h0
        · omega
        · have l1 := ord_mach_le hO (p := b) (q := q) g hq
          have l2 := ord_mach_le hO (p := a) (q := b) (by have := hG.lt; omega) (by omega)
          rw [hmq] at l1
          exact h0 (less_anti l2 l1)
  have hs : (grp o a b).Pairwise (fun i j => ltr (l.getD j default) (l.getD i default) = false) := by
    have hl := hO.late.sublist (grp_sub (a := a) (b := b))
    rw [List.pairwise_iff_getElem] at hl ⊢
    intro i j hi hj hij
    exact hl i j hi hj hij (by rw [(hin _ (List.getElem_mem hi)).2, (hin _ (List.getElem_mem hj)).2])
  obtain ⟨k0, f0⟩ := markF_all 0 l p.d _ _ (0, 0) K hK hnd hin hall hs
  obtain ⟨k1, f1⟩ := markF_all 1 l p.w _ _ (0, 0) _ k0 hnd hin hall hs
  obtain ⟨k2, f2⟩ := markF_all 2 l p.mo _ _ (0, 0) _ k1 hnd hin hall hs
  obtain ⟨k3, f3⟩ := markF_all 3 l p.y _ _ (0, 0) _ k2 hnd hin hall hs
  refine ⟨k3, fun i hi => ?_⟩
  unfold Pl.marks
  rw [f3 i hi, f2 i hi, f1 i hi, f0 i hi, h i hi]
  have ht : (decide (i ∈ o.take b)) = (decide (i ∈ o.take a) || decide (i ∈ grp o a b)) := by
    rw [Bool.eq_iff_iff]
    simp only [Bool.or_eq_true, decide_eq_true_eq]
    have hab : o.take b = o.take a ++ grp o a b := by
      unfold grp
      have := hG.lt
      have e : b = a + (b - a) := by omega
      rw [e, List.take_add]; simp
    rw [hab, List.mem_append]
  rw [ht]
  unfold keptAny
  generalize keptD l _ 0 p.d = q0
  generalize keptD l _ 1 p.w = q1
  generalize keptD l _ 2 p.mo = q2
  generalize keptD l _ 3 p.y = q3
  generalize decide (i ∈ o.take a) = u
  generalize decide (i ∈ grp o a b) = v
  revert u v q0 q1 q2 q3
  decide
end Go.Proofs.YtmncgnmgdkdhaaaGreatDoor.Pl
