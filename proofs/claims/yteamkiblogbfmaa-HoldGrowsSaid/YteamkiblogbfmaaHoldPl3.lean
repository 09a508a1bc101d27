/- Plain Lean: what is kept is kept of fewer; of each machine one stays; trimmed once more nothing goes. -/
import Derived.Test.YteamkiblogbfmaaHoldTm
namespace Go.Proofs.Yteamkiblogbfmaa
open Go.RowKit
set_option linter.unusedVariables false
set_option linter.unusedSimpArgs false
theorem sel_false_eq (R : Pl.Rt) : sel false (prs R) = R.l.filter (keepF R.p R.l R.now) := by
  unfold sel prs
  generalize keepF R.p R.l R.now = f
  induction R.l with
  | nil => rfl
  | cons x l ih =>
    simp only [List.map_cons, List.filter_cons]
    cases f x <;> simp <;> simpa using ih
theorem sel_true_eq (R : Pl.Rt) : sel true (prs R) = R.l.filter (fun x => !keepF R.p R.l R.now x) := by
  unfold sel prs
  generalize keepF R.p R.l R.now = f
  induction R.l with
  | nil => rfl
  | cons x l ih =>
    simp only [List.map_cons, List.filter_cons]
    cases f x <;> simp <;> simpa using ih
theorem sel_lens (R : Pl.Rt) : (sel false (prs R)).length + (sel true (prs R)).length = R.l.length := by
  rw [sel_false_eq, sel_true_eq]
  generalize keepF R.p R.l R.now = f
  induction R.l with
  | nil => rfl
  | cons x l ih =>
    simp only [List.filter_cons]
    cases f x <;> simp <;> omega
theorem keptD_less {l l' : List Pl.Rf} {x : Pl.Rf} {k : Nat} {n : Int} (hs : ∀ y ∈ l', y ∈ l) (h : Pl.keptD l x k n = true) : Pl.keptD l' x k n = true := by
  unfold Pl.keptD at h ⊢
  rw [Bool.and_eq_true] at h ⊢
  obtain ⟨h1, h2⟩ := h
  refine ⟨?_, ?_⟩
  · rw [Bool.not_eq_true'] at h1 ⊢
    cases hb : Pl.beaten k l' x
    · rfl
    · obtain ⟨y, h3, h4⟩ := Pl.beaten_iff.1 hb
      rw [Pl.beaten_iff.2 ⟨y, hs y h3, h4⟩] at h1
      cases h1
  · rw [decide_eq_true_eq] at h2 ⊢
    have := Pl.nodup_len (Pl.above k l' x) (Pl.above k l x) (Pl.above_nodup _ _ _) (fun q hq => by
      obtain ⟨y, h3, h4⟩ := Pl.mem_above.1 hq
      exact Pl.mem_above.2 ⟨y, hs y h3, h4⟩)
    omega
theorem keepF_less {p : Pl.Pol} {l l' : List Pl.Rf} {now : Int} {x : Pl.Rf} (hs : ∀ y ∈ l', y ∈ l) (h : keepF p l now x = true) : keepF p l' now x = true := by
  unfold keepF Pl.keptAny at h ⊢
  simp only [Bool.or_eq_true] at h ⊢
  rcases h with (h | ((h | h) | h) | h) | h
  · exact .inl (.inl h)
  · exact .inl (.inr (.inl (.inl (.inl (keptD_less hs h)))))
  · exact .inl (.inr (.inl (.inl (.inr (keptD_less hs h)))))
  · exact .inl (.inr (.inl (.inr (keptD_less hs h))))
  · exact .inl (.inr (.inr (keptD_less hs h)))
  · exact .inr h
/-- Trimmed once: all that is left is kept. -/
theorem once_all (R R1 : Pl.Rt) (hR : R1 = { R with l := sel false (prs R) }) : ∀ x ∈ R1.l, keepF R1.p R1.l R1.now x = true := by
  subst hR
  intro x hx
  have h1 : x ∈ sel false (prs R) := hx
  obtain ⟨h2, h3⟩ := sel_prs h1
  exact keepF_less (fun y hy => (sel_prs (show y ∈ sel false (prs R) from hy)).1) (by simpa using h3)
theorem once_gone {R1 : Pl.Rt} (h : ∀ x ∈ R1.l, keepF R1.p R1.l R1.now x = true) : sel true (prs R1) = [] := by
  rw [sel_true_eq, List.filter_eq_nil_iff]
  intro x hx
  simp [h x hx]
theorem once_stay {R1 : Pl.Rt} (h : ∀ x ∈ R1.l, keepF R1.p R1.l R1.now x = true) : sel false (prs R1) = R1.l := by
  rw [sel_false_eq, List.filter_eq_self]
  exact h
theorem once_keep {R1 : Pl.Rt} (h : ∀ x ∈ R1.l, keepF R1.p R1.l R1.now x = true) : Pl.keepD R1.p R1.l R1.now = List.replicate R1.l.length true := by
  rw [keepD_map]
  refine List.eq_replicate_iff.2 ⟨by simp, fun b hb => ?_⟩
  obtain ⟨x, hx, rfl⟩ := List.mem_map.1 hb
  exact h x hx
/-- The latest one of a machine. -/
theorem latest_one (m : List UInt8) : ∀ l : List Pl.Rf, (∃ x ∈ l, x.m = m) → ∃ y ∈ l, y.m = m ∧ ∀ z ∈ l, z.m = m → Pl.ltr z y = false
  | [], h => by obtain ⟨x, hx, -⟩ := h; cases hx
  | a :: l, h => by
    by_cases ha : a.m = m
    · by_cases hl : ∃ x ∈ l, x.m = m
      · obtain ⟨y, hy, hm, hz⟩ := latest_one m l hl
        cases hc : Pl.ltr a y
        · refine ⟨y, List.mem_cons_of_mem _ hy, hm, fun z hz' hzm => ?_⟩
          rcases List.mem_cons.1 hz' with rfl | hz'
          · exact hc
          · exact hz z hz' hzm
        · refine ⟨a, List.mem_cons_self .., ha, fun z hz' hzm => ?_⟩
          rcases List.mem_cons.1 hz' with rfl | hz'
          · exact Pl.ltr_irrefl _
          · have h1 := hz z hz' hzm
            rw [Pl.ltr_no] at h1 ⊢
            rw [Pl.ltr_iff] at hc
            omega
      · refine ⟨a, List.mem_cons_self .., ha, fun z hz' hzm => ?_⟩
        rcases List.mem_cons.1 hz' with rfl | hz'
        · exact Pl.ltr_irrefl _
        · exact absurd ⟨z, hz', hzm⟩ hl
    · obtain ⟨x, hx, hxm⟩ := h
      rcases List.mem_cons.1 hx with rfl | hx
      · exact absurd hxm ha
      · obtain ⟨y, hy, hm, hz⟩ := latest_one m l ⟨x, hx, hxm⟩
        refine ⟨y, List.mem_cons_of_mem _ hy, hm, fun z hz' hzm => ?_⟩
        rcases List.mem_cons.1 hz' with rfl | hz'
        · exact absurd hzm ha
        · exact hz z hz' hzm
theorem latest_kept {l : List Pl.Rf} {y : Pl.Rf} {k : Nat} {n : Int} (hn : 0 < n) (h : ∀ z ∈ l, z.m = y.m → Pl.ltr z y = false) : Pl.keptD l y k n = true := by
  unfold Pl.keptD
  rw [Bool.and_eq_true, Bool.not_eq_true', decide_eq_true_eq]
  refine ⟨?_, ?_⟩
  · cases hb : Pl.beaten k l y
    · rfl
    · obtain ⟨z, h3, h4, -, h6⟩ := Pl.beaten_iff.1 hb
      rw [h z h3 h4] at h6
      cases h6
  · have e : Pl.above k l y = [] := by
      refine List.eq_nil_iff_forall_not_mem.2 fun q hq => ?_
      obtain ⟨z, h3, h4, h5, h6⟩ := Pl.mem_above.1 hq
      have := Pl.per_mono k (Pl.ltr_le (h z h3 h4))
      omega
    rw [e]; simpa using hn
theorem pol_some {p : Pl.Pol} (h : Pl.polE p = 0) : ∃ k, k < 4 ∧ 0 < p.num k := by
  unfold Pl.polE at h
  split at h
  · cases h
  · split at h
    · cases h
    · next h1 =>
      have h2 : p.nums.any (fun n => decide (0 < n)) = true := by simpa using h1
      rw [List.any_eq_true] at h2
      obtain ⟨n, hn, h3⟩ := h2
      rw [decide_eq_true_eq] at h3
      simp only [Pl.Pol.nums, List.mem_cons, List.not_mem_nil, or_false] at hn
      rcases hn with rfl | rfl | rfl | rfl
      · exact ⟨0, by omega, h3⟩
      · exact ⟨1, by omega, h3⟩
      · exact ⟨2, by omega, h3⟩
      · exact ⟨3, by omega, h3⟩
/-- Of each machine one stays. -/
theorem one_stays (p : Pl.Pol) (l : List Pl.Rf) (now : Int) {x : Pl.Rf} (hx : x ∈ l) : ∃ y ∈ l, y.m = x.m ∧ keepF p l now y = true := by
  by_cases hE : Pl.polE p = 0
  · obtain ⟨y, hy, hm, hz⟩ := latest_one x.m l ⟨x, hx, rfl⟩
    refine ⟨y, hy, hm, ?_⟩
    obtain ⟨k, hk, hn⟩ := pol_some hE
    have h := latest_kept (k := k) (l := l) (y := y) hn (fun z h1 h2 => hz z h1 (h2.trans hm))
    unfold keepF Pl.keptAny
    simp only [Bool.or_eq_true]
    match k, hk, h with
    | 0, _, h => exact .inl (.inr (.inl (.inl (.inl h))))
    | 1, _, h => exact .inl (.inr (.inl (.inl (.inr h))))
    | 2, _, h => exact .inl (.inr (.inl (.inr h)))
    | 3, _, h => exact .inl (.inr (.inr h))
  · exact ⟨x, hx, rfl, by unfold keepF; rw [decide_eq_true hE]; rfl⟩
end Go.Proofs.Yteamkiblogbfmaa
