/- Plain Lean: one snapshot a day: which a policy of days alone, or of weeks alone, keeps. No program in sight. -/
import Derived.Test.YtmncgnmgdkdhaaaGreatDoorPolPl
namespace Go.Proofs.YtmncgnmgdkdhaaaGreatDoor.Pl
set_option linter.unusedVariables false
set_option linter.unusedSimpArgs false
def rowRf (f : Int) (i : Nat) : Rf := ⟨[109], (i : Int) + 1, f * 1440 + (i : Int) * 1440 + ((i : Int) * 37).tmod 1440, [], 0⟩
def rowL (f : Int) (d : Nat) : List Rf := (List.range d).map (rowRf f)
theorem row_rest (i : Nat) : 0 ≤ ((i : Int) * 37).tmod 1440 ∧ ((i : Int) * 37).tmod 1440 < 1440 := by
  have e : ((i : Int) * 37).tmod 1440 = ((i : Int) * 37) % 1440 := Int.tmod_eq_emod_of_nonneg (by omega)
  rw [e]; omega
theorem row_day (f : Int) (i : Nat) : dayN (rowRf f i).t = f + i := by
  have h := row_rest i
  unfold dayN rowRf
  dsimp only
  omega
theorem row_week (f : Int) (i : Nat) : weekN (rowRf f i).t = (f + i + 5) / 7 := by
  unfold weekN; rw [row_day]
theorem row_ltr (f : Int) (i j : Nat) : ltr (rowRf f i) (rowRf f j) = decide (j < i) := by
  by_cases e : i = j
  · subst e; rw [ltr_irrefl]; simp
  have hi := row_rest i
  have hj := row_rest j
  rw [Bool.eq_iff_iff, ltr_iff, decide_eq_true_eq]
  unfold rowRf
  dsimp only
  constructor
  · intro h; omega
  · intro h; left; omega
theorem mem_row {f : Int} {d : Nat} {x : Rf} : x ∈ rowL f d ↔ ∃ i, i < d ∧ x = rowRf f i := by
  unfold rowL
  rw [List.mem_map]
  exact ⟨fun ⟨i, h1, h2⟩ => ⟨i, List.mem_range.1 h1, h2.symm⟩, fun ⟨i, h1, h2⟩ => ⟨i, List.mem_range.2 h1, h2.symm⟩⟩
theorem kept_zero (l : List Rf) (x : Rf) (k : Nat) : keptD l x k 0 = false := by
  unfold keptD
  rw [Bool.and_eq_false_iff]; right
  rw [decide_eq_false_iff_not]; omega
theorem map_nodup {f : Nat → Int} (hf : ∀ i j, f i = f j → i = j) (n : Nat) : ((List.range n).map f).Nodup := by
  induction n with
  | zero => simp
  | succ n ih =>
    rw [List.range_succ, List.map_append, List.nodup_append]
    refine ⟨ih, by simp, fun a ha b hb e => ?_⟩
    obtain ⟨i, hi, rfl⟩ := List.mem_map.1 ha
    simp only [List.map_cons, List.map_nil, List.mem_singleton] at hb
    subst hb
    have := hf _ _ e
    have := List.mem_range.1 hi
    omega
theorem row_days (f : Int) (d n i : Nat) (hi : i < d) : keptD (rowL f d) (rowRf f i) 0 n = decide ((d : Int) - n ≤ i) := by
  have hb : beaten 0 (rowL f d) (rowRf f i) = false := by
    rw [Bool.eq_false_iff]
    intro h
    obtain ⟨y, h1, -, h3, h4⟩ := beaten_iff.1 h
    obtain ⟨j, hj, rfl⟩ := mem_row.1 h1
    rw [row_ltr, decide_eq_true_eq] at h4
    have h3 : dayN (rowRf f j).t = dayN (rowRf f i).t := h3
    rw [row_day, row_day] at h3; omega
  have ha : (above 0 (rowL f d) (rowRf f i)).length = d - 1 - i := by
    have e := nodup_eq (a := above 0 (rowL f d) (rowRf f i)) (b := (List.range (d - 1 - i)).map fun (j : Nat) => f + (i : Int) + 1 + (j : Int)) (above_nodup _ _ _) (map_nodup (fun i j h => by omega) _) (fun p => by
      rw [mem_above, List.mem_map]
      constructor
      · rintro ⟨y, h1, -, h3, h4⟩
        obtain ⟨j, hj, rfl⟩ := mem_row.1 h1
        have h3 : dayN (rowRf f j).t = p := h3
        have h4 : dayN (rowRf f i).t < p := h4
        rw [row_day] at h3 h4
        exact ⟨j - i - 1, List.mem_range.2 (by omega), by omega⟩
      · rintro ⟨j, hj, rfl⟩
        have hj := List.mem_range.1 hj
        refine ⟨rowRf f (i + 1 + j), mem_row.2 ⟨_, by omega, rfl⟩, rfl, ?_, ?_⟩
        · show dayN _ = _
          rw [row_day]; omega
        · show dayN _ < _
          rw [row_day]; omega)
    rw [e, List.length_map, List.length_range]
  unfold keptD
  rw [hb, ha]
  simp only [Bool.not_false, Bool.true_and]
  rw [Bool.eq_iff_iff, decide_eq_true_eq, decide_eq_true_eq]; omega
/-- The last day of its week, or of all; and fewer than n later weeks. -/
def rowW (f : Int) (d : Nat) (n : Nat) (i : Nat) : Bool := decide ((i + 1 = d ∨ (f + i + 6) % 7 = 0) ∧ (f + ((d : Int) - 1) + 5) / 7 - (f + i + 5) / 7 < n)
/-- Every week between has its day. -/
theorem week_day (f : Int) (i : Nat) (p : Int) : ∀ d : Nat, i < d → (f + i + 5) / 7 < p → p ≤ (f + ((d : Int) - 1) + 5) / 7 → ∃ j, j < d ∧ (f + (j : Int) + 5) / 7 = p
  | 0, h, _, _ => by omega
  | d + 1, h, h1, h2 => by
    by_cases e : (f + (d : Int) + 5) / 7 = p
    · exact ⟨d, by omega, e⟩
    · have hd : i < d := by
        rcases Nat.lt_or_ge i d with h3 | h3
        · exact h3
        · have : i = d := by omega
          subst this; omega
      obtain ⟨j, hj, h4⟩ := week_day f i p d hd h1 (by omega)
      exact ⟨j, by omega, h4⟩
theorem row_weeks (f : Int) (d n i : Nat) (hi : i < d) : keptD (rowL f d) (rowRf f i) 1 n = rowW f d n i := by
  have hb : beaten 1 (rowL f d) (rowRf f i) = !decide (i + 1 = d ∨ (f + i + 6) % 7 = 0) := by
    rw [Bool.eq_iff_iff, Bool.not_eq_true', decide_eq_false_iff_not, beaten_iff]
    constructor
    · rintro ⟨y, h1, -, h3, h4⟩ h5
      obtain ⟨j, hj, rfl⟩ := mem_row.1 h1
      rw [row_ltr, decide_eq_true_eq] at h4
      have h3 : weekN (rowRf f j).t = weekN (rowRf f i).t := h3
      rw [row_week, row_week] at h3; omega
    · intro h
      refine ⟨rowRf f (i + 1), mem_row.2 ⟨_, by omega, rfl⟩, rfl, ?_, ?_⟩
      · show weekN _ = weekN _
        rw [row_week, row_week]; omega
      · rw [row_ltr, decide_eq_true_eq]; omega
  have ha : ((above 1 (rowL f d) (rowRf f i)).length : Int) = (f + ((d : Int) - 1) + 5) / 7 - (f + i + 5) / 7 := by
    obtain ⟨m, hm⟩ : ∃ m : Nat, (m : Int) = (f + ((d : Int) - 1) + 5) / 7 - (f + i + 5) / 7 := ⟨((f + ((d : Int) - 1) + 5) / 7 - (f + i + 5) / 7).toNat, by omega⟩
    have e := nodup_eq (a := above 1 (rowL f d) (rowRf f i)) (b := (List.range m).map fun (j : Nat) => (f + (i : Int) + 5) / 7 + 1 + (j : Int)) (above_nodup _ _ _) (map_nodup (fun i j h => by omega) _) (fun p => by
      rw [mem_above, List.mem_map]
      constructor
      · rintro ⟨y, h1, -, h3, h4⟩
        obtain ⟨j, hj, rfl⟩ := mem_row.1 h1
        have h3 : weekN (rowRf f j).t = p := h3
        have h4 : weekN (rowRf f i).t < p := h4
        rw [row_week] at h3 h4
        exact ⟨(p - (f + i + 5) / 7 - 1).toNat, List.mem_range.2 (by omega), by omega⟩
      · rintro ⟨j, hj, rfl⟩
        have hj := List.mem_range.1 hj
        obtain ⟨q, hq, hq2⟩ := week_day f i ((f + (i : Int) + 5) / 7 + 1 + (j : Int)) d hi (by omega) (by omega)
        refine ⟨rowRf f q, mem_row.2 ⟨_, hq, rfl⟩, rfl, ?_, ?_⟩
        · show weekN _ = _
          rw [row_week, hq2]
        · show weekN _ < _
          rw [row_week]; omega)
    rw [e, List.length_map, List.length_range, hm]
  unfold keptD rowW
  rw [hb, ha, Bool.not_not, Bool.eq_iff_iff, Bool.and_eq_true, decide_eq_true_eq, decide_eq_true_eq, decide_eq_true_eq]
theorem polE_days (n : Nat) (h : 0 < n) (h2 : n ≤ 1000) : polE ⟨n, 0, 0, 0⟩ = 0 := by
  have a : (decide (0 ≤ (n : Int) ∧ (n : Int) ≤ 1000)) = true := decide_eq_true (by omega)
  have b : (decide (0 < (n : Int))) = true := decide_eq_true (by omega)
  unfold polE Pol.nums
  simp only [List.all_cons, List.any_cons, List.all_nil, List.any_nil, a, b]; rfl
theorem polE_weeks (n : Nat) (h : 0 < n) (h2 : n ≤ 1000) : polE ⟨0, n, 0, 0⟩ = 0 := by
  have a : (decide (0 ≤ (n : Int) ∧ (n : Int) ≤ 1000)) = true := decide_eq_true (by omega)
  have b : (decide (0 < (n : Int))) = true := decide_eq_true (by omega)
  unfold polE Pol.nums
  simp only [List.all_cons, List.any_cons, List.all_nil, List.any_nil, a, b]; rfl
theorem keepD_row (p : Pol) (f : Int) (d : Nat) (now : Int) (hp : polE p = 0) (hn : 0 ≤ now) (F : Nat → Bool) (h : ∀ i, i < d → keptAny p (rowL f d) (rowRf f i) = F i) : keepD p (rowL f d) now = (List.range d).map F := by
  unfold keepD
  rw [hp]
  conv => lhs; arg 2; unfold rowL
  rw [List.map_map]
  refine List.map_congr_left fun i hi => ?_
  have hi := List.mem_range.1 hi
  show (_ || keptAny p (rowL f d) (rowRf f i) || decide (now < 0)) = _
  rw [h i hi, decide_eq_false (show ¬ now < 0 by omega)]
  simp
theorem keep_days (f : Int) (d n : Nat) (now : Int) (h : 0 < n) (h2 : n ≤ 1000) (hn : 0 ≤ now) : keepD ⟨n, 0, 0, 0⟩ (rowL f d) now = (List.range d).map fun (i : Nat) => decide ((d : Int) - n ≤ i) :=
  keepD_row _ f d now (polE_days n h h2) hn _ fun i hi => by unfold keptAny; rw [kept_zero, kept_zero, kept_zero, row_days f d n i hi]; simp
theorem keep_weeks (f : Int) (d n : Nat) (now : Int) (h : 0 < n) (h2 : n ≤ 1000) (hn : 0 ≤ now) : keepD ⟨0, n, 0, 0⟩ (rowL f d) now = (List.range d).map (rowW f d n) :=
  keepD_row _ f d now (polE_weeks n h h2) hn _ fun i hi => by unfold keptAny; rw [kept_zero, kept_zero, kept_zero, row_weeks f d n i hi]; simp
/-- The days that a policy of weeks keeps. -/
def atL (f : Int) (d n : Nat) : List Nat := (List.range d).filter (rowW f d n)
theorem mem_at {f : Int} {d n i : Nat} : i ∈ atL f d n ↔ i < d ∧ (i + 1 = d ∨ (f + i + 6) % 7 = 0) ∧ (f + ((d : Int) - 1) + 5) / 7 - (f + i + 5) / 7 < n := by
  unfold atL rowW
  rw [List.mem_filter, List.mem_range, decide_eq_true_eq]
theorem at_sorted (f : Int) (d n : Nat) : (atL f d n).Pairwise (· < ·) := List.Pairwise.filter _ List.pairwise_lt_range
theorem at_lt (f : Int) (d n : Nat) {i j : Nat} (h : i < j) (hj : j < (atL f d n).length) : (atL f d n)[i]'(by omega) < (atL f d n)[j] := List.pairwise_iff_getElem.1 (at_sorted f d n) i j (by omega) hj h
theorem at_some (f : Int) {d n : Nat} (hd : 0 < d) (hn : 0 < n) : d - 1 ∈ atL f d n := by
  refine mem_at.2 ⟨by omega, .inl (by omega), ?_⟩
  have : ((d - 1 : Nat) : Int) = (d : Int) - 1 := by omega
  rw [this]; omega
theorem at_last (f : Int) {d n : Nat} (hn : 0 < n) {i : Nat} (hi : i < (atL f d n).length) (hl : i + 1 = (atL f d n).length) : (atL f d n)[i] + 1 = d := by
  have h1 := mem_at.1 (List.getElem_mem hi)
  obtain ⟨j, hj, e⟩ := List.getElem_of_mem (at_some f (show 0 < d by omega) hn)
  rcases Nat.lt_or_ge j i with h | h
  · have := at_lt f d n h hi; omega
  · have : j = i := by omega
    subst this; omega
theorem at_next (f : Int) {d n : Nat} {i : Nat} (h0 : 0 < i) (hi : i + 1 < (atL f d n).length) : (atL f d n)[i] = (atL f d n)[i - 1]'(by omega) + 7 := by
  have hx := mem_at.1 (List.getElem_mem (show i - 1 < (atL f d n).length by omega))
  have hy := mem_at.1 (List.getElem_mem (show i < (atL f d n).length by omega))
  have hz := mem_at.1 (List.getElem_mem hi)
  have l1 := at_lt f d n (show i - 1 < i by omega) (by omega)
  have l2 := at_lt f d n (show i < i + 1 by omega) hi
  have hm : (atL f d n)[i - 1]'(by omega) + 7 ∈ atL f d n := mem_at.2 ⟨by omega, .inr (by omega), by omega⟩
  obtain ⟨j, hj, e⟩ := List.getElem_of_mem hm
  have hji : i - 1 < j := by
    rcases Nat.lt_or_ge (i - 1) j with h | h
    · exact h
    · rcases Nat.lt_or_ge j (i - 1) with g | g
      · have := at_lt f d n g (by omega); omega
      · have : j = i - 1 := by omega
        subst this; omega
  rcases Nat.lt_or_ge i j with h | h
  · have := at_lt f d n h hj; omega
  · have : j = i := by omega
    subst this; exact e
theorem at_len (f : Int) (d n : Nat) : (atL f d n).length ≤ n := by
  have hnd : ((atL f d n).map fun (i : Nat) => (f + (i : Int) + 5) / 7).Nodup := by
    unfold List.Nodup
    rw [List.pairwise_map]
    refine List.Pairwise.imp_of_mem (fun {i j} hi hj h => ?_) (at_sorted f d n)
    have h1 := mem_at.1 hi
    have h2 := mem_at.1 hj
    omega
  have h := nodup_len ((atL f d n).map fun (i : Nat) => (f + (i : Int) + 5) / 7) ((List.range n).map fun (j : Nat) => (f + ((d : Int) - 1) + 5) / 7 - (j : Int)) hnd (fun p hp => by
    obtain ⟨i, hi, rfl⟩ := List.mem_map.1 hp
    have h1 := mem_at.1 hi
    exact List.mem_map.2 ⟨((f + ((d : Int) - 1) + 5) / 7 - (f + (i : Int) + 5) / 7).toNat, List.mem_range.2 (by omega), by omega⟩)
  simpa using h
end Go.Proofs.YtmncgnmgdkdhaaaGreatDoor.Pl
