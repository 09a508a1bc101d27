/- Plain Lean: what a policy keeps: by the members of one machine alone; more keeps more; the latest one is kept; a later one takes nothing back; to hold one longer changes nothing else. -/
import Derived.Test.YtmncgnmgdkdhaaaGreatDoorPolWa
namespace Go.Proofs.YtmncgnmgdkdhaaaGreatDoor
open Go.RowKit
set_option linter.unusedVariables false
set_option linter.unusedSimpArgs false
theorem keptD_less {l l' : List Pl.Rf} {x : Pl.Rf} {k : Nat} {n : Int} (hs : ∀ y ∈ l', y ∈ l) (h : Pl.keptD l x k n = true) : Pl.keptD l' x k n = true := by
  unfold Pl.keptD at h ⊢
  rw [Bool.and_eq_true] at h ⊢
  obtain ⟨h1, h2⟩ := h
  refine ⟨?_, ?_⟩
  · rw [Bool.not_eq_true'] at h1 ⊢
    cases hb : Pl.beaten k l' x
    · rfl
    · obtain ⟨y, h3, h4⟩ := Pl.beaten_iff.1 hb
      rw [Pl.beaten_iff.2 ⟨y, hs y h3, h4⟩] at h1
      cases h1
  · rw [decide_eq_true_eq] at h2 ⊢
    have := Pl.nodup_len (Pl.above k l' x) (Pl.above k l x) (Pl.above_nodup _ _ _) (fun q hq => by
      obtain ⟨y, h3, h4⟩ := Pl.mem_above.1 hq
      exact Pl.mem_above.2 ⟨y, hs y h3, h4⟩)
    omega
theorem keepF_less {p : Pl.Pol} {l l' : List Pl.Rf} {now : Int} {x : Pl.Rf} (hs : ∀ y ∈ l', y ∈ l) (h : keepF p l now x = true) : keepF p l' now x = true := by
  unfold keepF Pl.keptAny at h ⊢
  simp only [Bool.or_eq_true] at h ⊢
  rcases h with (h | ((h | h) | h) | h) | h
  · exact .inl (.inl h)
  · exact .inl (.inr (.inl (.inl (.inl (keptD_less hs h)))))
  · exact .inl (.inr (.inl (.inl (.inr (keptD_less hs h)))))
  · exact .inl (.inr (.inl (.inr (keptD_less hs h))))
  · exact .inl (.inr (.inr (keptD_less hs h)))
  · exact .inr h
theorem latest_kept {l : List Pl.Rf} {y : Pl.Rf} {k : Nat} {n : Int} (hn : 0 < n) (h : ∀ z ∈ l, z.m = y.m → Pl.ltr z y = false) : Pl.keptD l y k n = true := by
  unfold Pl.keptD
  rw [Bool.and_eq_true, Bool.not_eq_true', decide_eq_true_eq]
  refine ⟨?_, ?_⟩
  · cases hb : Pl.beaten k l y
    · rfl
    · obtain ⟨z, h3, h4, -, h6⟩ := Pl.beaten_iff.1 hb
      rw [h z h3 h4] at h6
      cases h6
  · have e : Pl.above k l y = [] := by
      refine List.eq_nil_iff_forall_not_mem.2 fun q hq => ?_
      obtain ⟨z, h3, h4, h5, h6⟩ := Pl.mem_above.1 hq
      have := Pl.per_mono k (Pl.ltr_le (h z h3 h4))
      omega
    rw [e]; simpa using hn
theorem pol_some {p : Pl.Pol} (h : Pl.polE p = 0) : ∃ k, k < 4 ∧ 0 < p.num k := by
  unfold Pl.polE at h
  split at h
  · cases h
  · split at h
    · cases h
    · next h1 =>
      have h2 : p.nums.any (fun n => decide (0 < n)) = true := by simpa using h1
      rw [List.any_eq_true] at h2
      obtain ⟨n, hn, h3⟩ := h2
      rw [decide_eq_true_eq] at h3
      simp only [Pl.Pol.nums, List.mem_cons, List.not_mem_nil, or_false] at hn
      rcases hn with rfl | rfl | rfl | rfl
      · exact ⟨0, by omega, h3⟩
      · exact ⟨1, by omega, h3⟩
      · exact ⟨2, by omega, h3⟩
      · exact ⟨3, by omega, h3⟩
/-- One of a list, held until then. -/
def hold1 (l : List Pl.Rf) (i : Nat) (til : Int) : List Pl.Rf := l.set i { l.getD i default with til := til }
theorem hold1_getE (l : List Pl.Rf) (i : Nat) (til : Int) (j : Nat) : (hold1 l i til)[j]? = if j = i then (l[j]?).map fun x => { x with til := til } else l[j]? := by
  unfold hold1
  rw [List.getElem?_set]
  by_cases h : i = j
  · subst h
    rw [if_pos rfl, if_pos rfl]
    by_cases hi : i < l.length
    · rw [if_pos hi, List.getElem?_eq_getElem hi, List.getD_eq_getElem?_getD, List.getElem?_eq_getElem hi]; rfl
    · rw [if_neg hi, List.getElem?_eq_none (by omega)]; rfl
  · rw [if_neg h, if_neg (fun e => h e.symm)]
theorem hold1_map {α : Type} (f : Pl.Rf → α) (hf : ∀ x til, f { x with til := til } = f x) (l : List Pl.Rf) (i : Nat) (til : Int) : (hold1 l i til).map f = l.map f := by
  refine List.ext_getElem? fun j => ?_
  rw [List.getElem?_map, List.getElem?_map, hold1_getE]
  split
  · cases l[j]? with
    | none => rfl
    | some x => simp [hf]
  · rfl
def bare (x : Pl.Rf) : Pl.Rf := { x with til := 0 }
theorem aboveF_bare (k : Nat) (m : List UInt8) (own : Int) : ∀ (l : List Pl.Rf) (a : List Int), Pl.aboveF k m own (l.map bare) a = Pl.aboveF k m own l a
  | [], a => rfl
  | y :: r, a => by
    simp only [List.map_cons, Pl.aboveF, aboveF_bare k m own r]; rfl
theorem keptD_bare (l : List Pl.Rf) (x : Pl.Rf) (k : Nat) (n : Int) : Pl.keptD (l.map bare) x k n = Pl.keptD l x k n := by
  unfold Pl.keptD Pl.above Pl.beaten
  rw [aboveF_bare, List.any_map]; rfl
theorem keptD_same {l l' : List Pl.Rf} (h : l.map bare = l'.map bare) (x : Pl.Rf) (k : Nat) (n : Int) : Pl.keptD l x k n = Pl.keptD l' x k n := by
  rw [← keptD_bare l, ← keptD_bare l', h]
theorem keepF_hold1 (p : Pl.Pol) (l : List Pl.Rf) (i : Nat) (til now : Int) (x : Pl.Rf) : keepF p (hold1 l i til) now x = keepF p l now x := by
  have h : (hold1 l i til).map bare = l.map bare := hold1_map bare (fun _ _ => rfl) l i til
  unfold keepF Pl.keptAny
  simp only [keptD_same h]
theorem keptD_mach {l l' : List Pl.Rf} {x : Pl.Rf} {k : Nat} {n : Int} (hs : ∀ y ∈ l', y.m = x.m → y ∈ l) (h : Pl.keptD l x k n = true) : Pl.keptD l' x k n = true := by
  unfold Pl.keptD at h ⊢
  rw [Bool.and_eq_true] at h ⊢
  obtain ⟨h1, h2⟩ := h
  refine ⟨?_, ?_⟩
  · rw [Bool.not_eq_true'] at h1 ⊢
    cases hb : Pl.beaten k l' x
    · rfl
    · obtain ⟨y, h3, h4⟩ := Pl.beaten_iff.1 hb
      rw [Pl.beaten_iff.2 ⟨y, hs y h3 h4.1, h4⟩] at h1
      cases h1
  · rw [decide_eq_true_eq] at h2 ⊢
    have := Pl.nodup_len (Pl.above k l' x) (Pl.above k l x) (Pl.above_nodup _ _ _) (fun q hq => by
      obtain ⟨y, h3, h4⟩ := Pl.mem_above.1 hq
      exact Pl.mem_above.2 ⟨y, hs y h3 h4.1, h4⟩)
    omega
/-- Two lists with the same snapshots of a machine keep the same ones of it. -/
theorem keptD_eq {l l' : List Pl.Rf} {x : Pl.Rf} (hs : ∀ y, y.m = x.m → (y ∈ l ↔ y ∈ l')) (k : Nat) (n : Int) : Pl.keptD l x k n = Pl.keptD l' x k n := by
  rw [Bool.eq_iff_iff]
  exact ⟨keptD_mach fun y h1 h2 => (hs y h2).2 h1, keptD_mach fun y h1 h2 => (hs y h2).1 h1⟩
theorem keepF_eq {l l' : List Pl.Rf} {x : Pl.Rf} (hs : ∀ y, y.m = x.m → (y ∈ l ↔ y ∈ l')) (p : Pl.Pol) (now : Int) : keepF p l now x = keepF p l' now x := by
  unfold keepF Pl.keptAny
  simp only [keptD_eq hs]
theorem keepF_rev (p : Pl.Pol) (l : List Pl.Rf) (now : Int) (x : Pl.Rf) : keepF p l.reverse now x = keepF p l now x :=
  keepF_eq (fun y _ => List.mem_reverse) p now
theorem keptD_more {l : List Pl.Rf} {x : Pl.Rf} {k : Nat} {n n' : Int} (hn : n ≤ n') (h : Pl.keptD l x k n = true) : Pl.keptD l x k n' = true := by
  unfold Pl.keptD at h ⊢
  rw [Bool.and_eq_true, decide_eq_true_eq] at h ⊢
  exact ⟨h.1, by omega⟩
/-- More keeps more. -/
theorem keepF_more {p q : Pl.Pol} {l : List Pl.Rf} {now : Int} {x : Pl.Rf} (hp : Pl.polE p = 0) (h0 : p.d ≤ q.d) (h1 : p.w ≤ q.w) (h2 : p.mo ≤ q.mo) (h3 : p.y ≤ q.y) (h : keepF p l now x = true) : keepF q l now x = true := by
  unfold keepF Pl.keptAny at h ⊢
  simp only [hp, ne_eq, not_true_eq_false, decide_false, Bool.false_or] at h
  simp only [Bool.or_eq_true] at h ⊢
  rcases h with ((((h | h) | h) | h) | h)
  · exact .inl (.inr (.inl (.inl (.inl (keptD_more h0 h)))))
  · exact .inl (.inr (.inl (.inl (.inr (keptD_more h1 h)))))
  · exact .inl (.inr (.inl (.inr (keptD_more h2 h))))
  · exact .inl (.inr (.inr (keptD_more h3 h)))
  · exact .inr h
/-- The latest one of its machine is kept. -/
theorem latest_keepF (p : Pl.Pol) {l : List Pl.Rf} (now : Int) {y : Pl.Rf} (hz : ∀ z ∈ l, z.m = y.m → Pl.ltr z y = false) : keepF p l now y = true := by
  by_cases hE : Pl.polE p = 0
  · obtain ⟨k, hk, hn⟩ := pol_some hE
    have h := latest_kept (k := k) (l := l) (y := y) hn hz
    unfold keepF Pl.keptAny
    simp only [Bool.or_eq_true]
    match k, hk, h with
    | 0, _, h => exact .inl (.inr (.inl (.inl (.inl h))))
    | 1, _, h => exact .inl (.inr (.inl (.inl (.inr h))))
    | 2, _, h => exact .inl (.inr (.inl (.inr h)))
    | 3, _, h => exact .inl (.inr (.inr h))
  · unfold keepF; rw [decide_eq_true hE]; rfl
/-- A later one of the same machine: what was gone stays gone. -/
theorem later_gone {p : Pl.Pol} {l : List Pl.Rf} {now : Int} {x y : Pl.Rf} (h : keepF p (l ++ [x]) now y = true) : keepF p l now y = true :=
  keepF_less (fun z hz => List.mem_append_left _ hz) h
theorem later_other {p : Pl.Pol} {l : List Pl.Rf} {now : Int} {x y : Pl.Rf} (hne : y.m ≠ x.m) : keepF p (l ++ [x]) now y = keepF p l now y :=
  keepF_eq (fun z hz => by
    rw [List.mem_append, List.mem_singleton]
    exact ⟨fun h => h.elim id fun e => absurd (by rw [← hz, e]) hne, .inl⟩) p now
/-- To hold one longer: no other one is another. -/
theorem keepF_hold_mono (p : Pl.Pol) (l : List Pl.Rf) (i : Nat) (til now : Int) (x : Pl.Rf) (h : x.til ≤ til) (hk : keepF p l now x = true) : keepF p (hold1 l i til) now { x with til := til } = true := by
  rw [keepF_hold1]
  unfold keepF at hk ⊢
  simp only [Bool.or_eq_true, decide_eq_true_eq] at hk ⊢
  rcases hk with (hk | hk) | hk
  · exact .inl (.inl hk)
  · exact .inl (.inr hk)
  · exact .inr (by omega)
theorem keepF_when {p : Pl.Pol} {l : List Pl.Rf} {now now' : Int} {x : Pl.Rf} (hn : now ≤ now') (h : keepF p l now' x = true) : keepF p l now x = true := by
  unfold keepF at h ⊢
  simp only [Bool.or_eq_true, decide_eq_true_eq] at h ⊢
  rcases h with h | h
  · exact .inl h
  · exact .inr (by omega)
end Go.Proofs.YtmncgnmgdkdhaaaGreatDoor
