/- Plain Lean: which snapshots a policy keeps, by the document's definition; and that marking the latest ones, machine by machine, in order, makes the same. No program in sight. -/
import Derived.Test.YtmncgnmgdkdhaaaGreatDoorDatePl
set_option linter.unusedVariables false
namespace Go.Proofs.YtmncgnmgdkdhaaaGreatDoor.Pl
/-- One snapshot, as a root tells it. -/
structure Rf where
  m : List UInt8
  n : Int
  t : Int
  nm : List UInt8
  til : Int
instance : Inhabited Rf := ⟨⟨[], 0, 0, [], 0⟩⟩
structure Pol where
  d : Int
  w : Int
  mo : Int
  y : Int
def Pol.nums (p : Pol) : List Int := [p.d, p.w, p.mo, p.y]
def Pol.num (p : Pol) (k : Nat) : Int := match k with | 0 => p.d | 1 => p.w | 2 => p.mo | _ => p.y
/-- Why a policy may not be. -/
def polE (p : Pol) : Nat :=
  if p.nums.all (fun n => decide (0 ≤ n ∧ n ≤ 1000)) = false then 2 else if p.nums.any (fun n => decide (0 < n)) = false then 1 else 0
/-- Later than another one of its machine? -/
def ltr (a b : Rf) : Bool := decide (b.t < a.t ∨ a.t = b.t ∧ b.n < a.n)
theorem ltr_irrefl (a : Rf) : ltr a a = false := by simp [ltr]
theorem ltr_iff (a b : Rf) : ltr a b = true ↔ (b.t < a.t ∨ a.t = b.t ∧ b.n < a.n) := by simp [ltr]
theorem ltr_no (a b : Rf) : ltr a b = false ↔ ¬ (b.t < a.t ∨ a.t = b.t ∧ b.n < a.n) := by simp [ltr]
/-- The later periods that a machine has, each once. -/
def aboveF (k : Nat) (m : List UInt8) (own : Int) : List Rf → List Int → List Int
  | [], a => a
  | y :: r, a => if y.m = m then (if per k y.t ≤ own ∨ per k y.t ∈ a then aboveF k m own r a else aboveF k m own r (a ++ [per k y.t])) else aboveF k m own r a
def above (k : Nat) (l : List Rf) (x : Rf) : List Int := aboveF k x.m (per k x.t) l []
/-- Is there a later one in its own period? -/
def beaten (k : Nat) (l : List Rf) (x : Rf) : Bool := l.any fun y => decide (y.m = x.m ∧ per k y.t = per k x.t) && ltr y x
/-- Is it kept as one of so many periods of a kind? -/
def keptD (l : List Rf) (x : Rf) (k : Nat) (n : Int) : Bool := !beaten k l x && decide (((above k l x).length : Int) < n)
theorem aboveF_spec (k : Nat) (m : List UInt8) (own : Int) : ∀ (l : List Rf) (a : List Int), a.Nodup → (aboveF k m own l a).Nodup ∧ ∀ p, p ∈ aboveF k m own l a ↔ p ∈ a ∨ ∃ y ∈ l, y.m = m ∧ per k y.t = p ∧ own < p
  | [], a, h => ⟨h, fun p => by simp [aboveF]⟩
  | y :: r, a, h => by
    unfold aboveF
    by_cases h1 : y.m = m
    · rw [if_pos h1]
      by_cases h2 : per k y.t ≤ own ∨ per k y.t ∈ a
      · rw [if_pos h2]
        obtain ⟨e1, e2⟩ := aboveF_spec k m own r a h
        refine ⟨e1, fun p => ?_⟩
        rw [e2]
        constructor
        · rintro (g | ⟨z, g1, g2⟩)
          · exact .inl g
          · exact .inr ⟨z, List.mem_cons_of_mem _ g1, g2⟩
        · rintro (g | ⟨z, g1, g2, g3, g4⟩)
          · exact .inl g
          · rcases List.mem_cons.1 g1 with rfl | g1
            · rcases h2 with h2 | h2
              · rw [g3] at h2; omega
              · rw [g3] at h2; exact .inl h2
            · exact .inr ⟨z, g1, g2, g3, g4⟩
      · rw [if_neg h2]
        have h3 : own < per k y.t := by
          rcases Int.lt_or_le own (per k y.t) with h3 | h3
          · exact h3
          · exact absurd (.inl h3) h2
        have h4 : per k y.t ∉ a := fun g => h2 (.inr g)
        obtain ⟨e1, e2⟩ := aboveF_spec k m own r (a ++ [per k y.t]) (by
          rw [List.nodup_append]
          refine ⟨h, by simp, ?_⟩
          intro p hp q hq
          simp at hq
          subst hq
          rintro rfl; exact h4 hp)
        refine ⟨e1, fun p => ?_⟩
        rw [e2]
        simp only [List.mem_append, List.mem_cons, List.not_mem_nil, or_false]
        constructor
        · rintro ((g | g) | ⟨z, g1, g2⟩)
          · exact .inl g
          · exact .inr ⟨y, .inl rfl, h1, g.symm, by rw [g]; exact h3⟩
          · exact .inr ⟨z, .inr g1, g2⟩
        · rintro (g | ⟨z, g1 | g1, g2, g3, g4⟩)
          · exact .inl (.inl g)
          · subst g1; exact .inl (.inr g3.symm)
          · exact .inr ⟨z, g1, g2, g3, g4⟩
    · rw [if_neg h1]
      obtain ⟨e1, e2⟩ := aboveF_spec k m own r a h
      refine ⟨e1, fun p => ?_⟩
      rw [e2]
      constructor
      · rintro (g | ⟨z, g1, g2⟩)
        · exact .inl g
        · exact .inr ⟨z, List.mem_cons_of_mem _ g1, g2⟩
      · rintro (g | ⟨z, g1, g2, g3, g4⟩)
        · exact .inl g
        · rcases List.mem_cons.1 g1 with rfl | g1
          · exact absurd g2 h1
          · exact .inr ⟨z, g1, g2, g3, g4⟩
theorem above_nodup (k : Nat) (l : List Rf) (x : Rf) : (above k l x).Nodup := (aboveF_spec k x.m _ l [] List.nodup_nil).1
theorem mem_above {k : Nat} {l : List Rf} {x : Rf} {p : Int} : p ∈ above k l x ↔ ∃ y ∈ l, y.m = x.m ∧ per k y.t = p ∧ per k x.t < p := by
  unfold above; rw [(aboveF_spec k x.m _ l [] List.nodup_nil).2]; simp
theorem beaten_iff {k : Nat} {l : List Rf} {x : Rf} : beaten k l x = true ↔ ∃ y ∈ l, y.m = x.m ∧ per k y.t = per k x.t ∧ ltr y x = true := by
  unfold beaten; rw [List.any_eq_true]
  constructor
  · rintro ⟨y, h1, h2⟩
    simp only [Bool.and_eq_true, decide_eq_true_eq] at h2
    exact ⟨y, h1, h2.1.1, h2.1.2, h2.2⟩
  · rintro ⟨y, h1, h2, h3, h4⟩
    exact ⟨y, h1, by simp [h2, h3, h4]⟩
/-- Numbers of which each is once, all among others: no more than those. -/
theorem nodup_len {α : Type} [DecidableEq α] : ∀ (a b : List α), a.Nodup → (∀ p ∈ a, p ∈ b) → a.length ≤ b.length
  | [], b, _, _ => Nat.zero_le _
  | x :: a, b, h, hs => by
    rw [List.nodup_cons] at h
    have hx := hs x (List.mem_cons_self ..)
    have h2 := nodup_len a (b.erase x) h.2 (fun p hp => by
      have hp' := hs p (List.mem_cons_of_mem _ hp)
      refine (List.mem_erase_of_ne ?_).2 hp'
      rintro rfl; exact h.1 hp)
    rw [List.length_erase_of_mem hx] at h2
    have : 0 < b.length := List.length_pos_of_mem hx
    simp only [List.length_cons]; omega
theorem nodup_eq {α : Type} [DecidableEq α] {a b : List α} (ha : a.Nodup) (hb : b.Nodup) (h : ∀ p, p ∈ a ↔ p ∈ b) : a.length = b.length :=
  Nat.le_antisymm (nodup_len a b ha fun p hp => (h p).1 hp) (nodup_len b a hb fun p hp => (h p).2 hp)

/-- The marks of one kind of period in the places of one machine, the latest one first: what the program does. -/
def markF (k : Nat) (l : List Rf) (n : Int) : List Nat → List Int → Int × Int → List Bool → List Bool
  | [], _, _, K => K
  | i :: r, met, lat, K =>
    if per k (l.getD i default).t ∈ met then markF k l n r met lat (K.set i (K.getD i false || (decide ((l.getD i default).t = lat.1) && decide ((l.getD i default).n = lat.2))))
    else if n ≤ met.length then K
    else markF k l n r (per k (l.getD i default).t :: met) ((l.getD i default).t, (l.getD i default).n) (K.set i true)
theorem ltr_le {a b : Rf} (h : ltr a b = false) : a.t ≤ b.t := by rw [ltr_no] at h; omega
theorem ltr_eq {a b : Rf} (h : ltr a b = false) (g : ltr b a = false) : a.t = b.t ∧ a.n = b.n := by rw [ltr_no] at h g; omega
structure MarkInv (k : Nat) (l : List Rf) (n : Int) (done : List Nat) (met : List Int) (lat : Int × Int) : Prop where
  nodup : met.Nodup
  mem : ∀ p, p ∈ met ↔ ∃ j ∈ done, per k (l.getD j default).t = p
  len : met = [] ∨ (met.length : Int) ≤ n
  last : done = [] ∨ ∃ j0 ∈ done, (l.getD j0 default).t = lat.1 ∧ (l.getD j0 default).n = lat.2 ∧ (∀ j ∈ done, per k (l.getD j0 default).t ≤ per k (l.getD j default).t) ∧ (∀ j ∈ done, per k (l.getD j default).t = per k (l.getD j0 default).t → ltr (l.getD j default) (l.getD j0 default) = false)
theorem getD_mem (l : List Rf) (j : Nat) (h : j < l.length) : l.getD j default ∈ l := by
  rw [List.getD_eq_getElem?_getD, List.getElem?_eq_getElem h]; exact List.getElem_mem h
theorem ex_getD {l : List Rf} {y : Rf} (h : y ∈ l) : ∃ j, j < l.length ∧ l.getD j default = y := by
  obtain ⟨j, hj, e⟩ := List.getElem_of_mem h
  exact ⟨j, hj, by rw [List.getD_eq_getElem?_getD, List.getElem?_eq_getElem hj]; exact e⟩
theorem set_getD (K : List Bool) (i j : Nat) (b : Bool) (hi : i < K.length) : (K.set i b).getD j false = if j = i then b else K.getD j false := by
  rw [List.getD_eq_getElem?_getD, List.getD_eq_getElem?_getD, List.getElem?_set]
  by_cases h : i = j
  · subst h; simp [hi]
  · rw [if_neg h, if_neg (fun e => h e.symm)]
theorem markF_law (k : Nat) (l : List Rf) (n : Int) (m : List UInt8) : ∀ (r done : List Nat) (met : List Int) (lat : Int × Int) (K : List Bool), K.length = l.length → (done ++ r).Nodup →
    (∀ j ∈ done ++ r, j < l.length ∧ (l.getD j default).m = m) → (∀ j, j < l.length → (l.getD j default).m = m → j ∈ done ++ r) → (done ++ r).Pairwise (fun i j => ltr (l.getD j default) (l.getD i default) = false) →
    MarkInv k l n done met lat → (markF k l n r met lat K).length = l.length ∧ ∀ i, i < l.length → (markF k l n r met lat K).getD i false = (K.getD i false || (decide (i ∈ r) && keptD l (l.getD i default) k n))
  | [], done, met, lat, K, hK, _, _, _, _, _ => ⟨hK, fun i _ => by simp [markF]⟩
  | i :: r, done, met, lat, K, hK, hnd, hin, hall, hsort, hinv => by
    have hi := hin i (by simp)
    have hpw := List.pairwise_append.1 hsort
    have hpc := List.pairwise_cons.1 hpw.2.1
    have hdi : ∀ j ∈ done, ltr (l.getD i default) (l.getD j default) = false := fun j hj => hpw.2.2 j hj i (List.mem_cons_self ..)
    have hri : ∀ j ∈ r, ltr (l.getD j default) (l.getD i default) = false := hpc.1
    have pdi : ∀ j ∈ done, per k (l.getD i default).t ≤ per k (l.getD j default).t := fun j hj => per_mono k (ltr_le (hdi j hj))
    have pri : ∀ j ∈ r, per k (l.getD j default).t ≤ per k (l.getD i default).t := fun j hj => per_mono k (ltr_le (hri j hj))
    have hnr : i ∉ r := (List.nodup_cons.1 (List.nodup_append.1 hnd).2.1).1
    have e1 : done ++ i :: r = (done ++ [i]) ++ r := by simp
    have hwho : ∀ y ∈ l, y.m = (l.getD i default).m → ∃ j, l.getD j default = y ∧ (j ∈ done ∨ j = i ∨ j ∈ r) := by
      intro y hy hm
      obtain ⟨j, hj, rfl⟩ := ex_getD hy
      have := hall j hj (by rw [hm]; exact hi.2)
      refine ⟨j, rfl, ?_⟩
      rcases List.mem_append.1 this with h | h
      · exact .inl h
      · exact .inr (List.mem_cons.1 h)
    have hset : ∀ b : Bool, (K.set i b).length = l.length := fun b => by rw [List.length_set]; exact hK
    unfold markF
    by_cases hx : per k (l.getD i default).t ∈ met
    · rw [if_pos hx]
      obtain ⟨j1, hj1, ej1⟩ := (hinv.mem _).1 hx
      rcases hinv.last with h0 | ⟨j0, hj0, t0, n0, hlast, hbest⟩
      · subst h0; cases hj1
      have ep : per k (l.getD j0 default).t = per k (l.getD i default).t := Int.le_antisymm (by rw [← ej1]; exact hlast j1 hj1) (pdi j0 hj0)
      have hinv' : MarkInv k l n (done ++ [i]) met lat := by
        refine ⟨hinv.nodup, fun p => ?_, hinv.len, .inr ⟨j0, by simp [hj0], t0, n0, ?_, ?_⟩⟩
        · rw [hinv.mem]
          constructor
          · rintro ⟨j, h1, h2⟩; exact ⟨j, by simp [h1], h2⟩
          · rintro ⟨j, h1, h2⟩
            rcases List.mem_append.1 h1 with h1 | h1
            · exact ⟨j, h1, h2⟩
            · simp at h1; subst h1; exact ⟨j1, hj1, by rw [ej1]; exact h2⟩
        · intro j hj
          rcases List.mem_append.1 hj with hj | hj
          · exact hlast j hj
          · simp at hj; subst hj; omega
        · intro j hj hp
          rcases List.mem_append.1 hj with hj | hj
          · exact hbest j hj hp
          · simp at hj; subst hj; exact hdi j0 hj0
      have ih := markF_law k l n m r (done ++ [i]) met lat (K.set i (K.getD i false || (decide ((l.getD i default).t = lat.1) && decide ((l.getD i default).n = lat.2)))) (hset _) (by rw [← e1]; exact hnd) (by rw [← e1]; exact hin) (by rw [← e1]; exact hall) (by rw [← e1]; exact hsort) hinv'
      refine ⟨ih.1, fun q hq => ?_⟩
      rw [ih.2 q hq, set_getD _ _ _ _ (by omega)]
      by_cases hqi : q = i
      · subst hqi
        rw [if_pos rfl]
        have hb : beaten k l (l.getD q default) = !(decide ((l.getD q default).t = lat.1) && decide ((l.getD q default).n = lat.2)) := by
          rw [Bool.eq_iff_iff, beaten_iff]
          constructor
          · rintro ⟨y, h1, h2, h3, h4⟩
            obtain ⟨j, rfl, hj⟩ := hwho y h1 h2
            have g : ltr (l.getD j default) (l.getD j0 default) = false := by
              rcases hj with hj | rfl | hj
              · exact hbest j hj (by rw [h3, ep])
              · rw [ltr_irrefl] at h4; cases h4
              · rw [hri j hj] at h4; cases h4
            rw [Bool.not_eq_true']
            cases hc : (decide ((l.getD q default).t = lat.1) && decide ((l.getD q default).n = lat.2))
            · rfl
            · simp only [Bool.and_eq_true, decide_eq_true_eq] at hc
              rw [ltr_no, t0, n0, ← hc.1, ← hc.2] at g
              rw [ltr_iff] at h4
              exact absurd h4 g
          · intro h
            refine ⟨l.getD j0 default, getD_mem l j0 (hin j0 (by simp [hj0])).1, by rw [(hin j0 (by simp [hj0])).2, hi.2], ep, ?_⟩
            cases hc : ltr (l.getD j0 default) (l.getD q default)
            · have := ltr_eq hc (hdi j0 hj0)
              rw [t0, n0] at this
              rw [this.1, this.2] at h
              simp at h
            · rfl
        have hc : ((above k l (l.getD q default)).length : Int) < n := by
          have h1 := nodup_len (above k l (l.getD q default)) (met.erase (per k (l.getD q default).t)) (above_nodup _ _ _) (fun p hp => by
            obtain ⟨y, h1, h2, h3, h4⟩ := mem_above.1 hp
            obtain ⟨j, rfl, hj⟩ := hwho y h1 h2
            refine (List.mem_erase_of_ne (by omega)).2 ((hinv.mem p).2 ?_)
            rcases hj with hj | rfl | hj
            · exact ⟨j, hj, h3⟩
            · omega
            · have := pri j hj; omega)
          rw [List.length_erase_of_mem hx] at h1
          have := List.length_pos_of_mem hx
          rcases hinv.len with h2 | h2
          · rw [h2] at hx; cases hx
          · omega
        unfold keptD
        rw [hb, decide_eq_true hc]
        simp [hnr]
      · rw [if_neg hqi]
        simp [hqi]
    · rw [if_neg hx]
      by_cases hn : n ≤ met.length
      · rw [if_pos hn]
        refine ⟨hK, fun q hq => ?_⟩
        by_cases hqr : q ∈ i :: r
        · have hk : keptD l (l.getD q default) k n = false := by
            have hpq : per k (l.getD q default).t ≤ per k (l.getD i default).t := by
              rcases List.mem_cons.1 hqr with rfl | h
              · exact Int.le_refl _
              · exact pri q h
            have h1 := nodup_len met (above k l (l.getD q default)) hinv.nodup (fun p hp => by
              obtain ⟨j, hj, rfl⟩ := (hinv.mem p).1 hp
              refine mem_above.2 ⟨_, getD_mem l j (hin j (by simp [hj])).1, by rw [(hin j (by simp [hj])).2, (hin q (by simp only [List.mem_append]; exact .inr hqr)).2], rfl, ?_⟩
              have h2 := pdi j hj
              have h3 : per k (l.getD i default).t ≠ per k (l.getD j default).t := fun e => hx (by rw [e]; exact hp)
              omega)
            unfold keptD
            rw [decide_eq_false (by omega)]; simp
          rw [hk]; simp
        · simp [hqr]
      · rw [if_neg hn]
        have hinv' : MarkInv k l n (done ++ [i]) (per k (l.getD i default).t :: met) ((l.getD i default).t, (l.getD i default).n) := by
          refine ⟨List.nodup_cons.2 ⟨hx, hinv.nodup⟩, fun p => ?_, .inr (by simp only [List.length_cons]; omega), .inr ⟨i, by simp, rfl, rfl, ?_, ?_⟩⟩
          · rw [List.mem_cons, hinv.mem]
            constructor
            · rintro (rfl | ⟨j, h1, h2⟩)
              · exact ⟨i, by simp, rfl⟩
              · exact ⟨j, by simp [h1], h2⟩
            · rintro ⟨j, h1, h2⟩
              rcases List.mem_append.1 h1 with h1 | h1
              · exact .inr ⟨j, h1, h2⟩
              · simp at h1; subst h1; exact .inl h2.symm
          · intro j hj
            rcases List.mem_append.1 hj with hj | hj
            · exact pdi j hj
            · simp at hj; subst hj; exact Int.le_refl _
          · intro j hj hp
            rcases List.mem_append.1 hj with hj | hj
            · exact absurd ((hinv.mem _).2 ⟨j, hj, hp⟩) hx
            · simp at hj; subst hj; exact ltr_irrefl _
        have ih := markF_law k l n m r (done ++ [i]) _ _ (K.set i true) (hset _) (by rw [← e1]; exact hnd) (by rw [← e1]; exact hin) (by rw [← e1]; exact hall) (by rw [← e1]; exact hsort) hinv'
        refine ⟨ih.1, fun q hq => ?_⟩
        rw [ih.2 q hq, set_getD _ _ _ _ (by omega)]
        by_cases hqi : q = i
        · subst hqi
          rw [if_pos rfl]
          have hb : beaten k l (l.getD q default) = false := by
            cases hc : beaten k l (l.getD q default)
            · rfl
            · obtain ⟨y, h1, h2, h3, h4⟩ := beaten_iff.1 hc
              obtain ⟨j, rfl, hj⟩ := hwho y h1 h2
              rcases hj with hj | rfl | hj
              · exact absurd ((hinv.mem _).2 ⟨j, hj, h3⟩) hx
              · rw [ltr_irrefl] at h4; cases h4
              · rw [hri j hj] at h4; cases h4
          have hc : ((above k l (l.getD q default)).length : Int) < n := by
            have h1 := nodup_len (above k l (l.getD q default)) met (above_nodup _ _ _) (fun p hp => by
              obtain ⟨y, h1, h2, h3, h4⟩ := mem_above.1 hp
              obtain ⟨j, rfl, hj⟩ := hwho y h1 h2
              rcases hj with hj | rfl | hj
              · exact (hinv.mem p).2 ⟨j, hj, h3⟩
              · omega
              · have := pri j hj; omega)
            omega
          unfold keptD
          rw [hb, decide_eq_true hc]
          simp
        · rw [if_neg hqi]
          simp [hqi]
/-- The marks of one kind, machine's places from the first on. -/
theorem markF_all (k : Nat) (l : List Rf) (n : Int) (m : List UInt8) (g : List Nat) (z : Int × Int) (K : List Bool) (hK : K.length = l.length) (hnd : g.Nodup)
    (hin : ∀ j ∈ g, j < l.length ∧ (l.getD j default).m = m) (hall : ∀ j, j < l.length → (l.getD j default).m = m → j ∈ g) (hs : g.Pairwise (fun i j => ltr (l.getD j default) (l.getD i default) = false)) :
    (markF k l n g [] z K).length = l.length ∧ ∀ i, i < l.length → (markF k l n g [] z K).getD i false = (K.getD i false || (decide (i ∈ g) && keptD l (l.getD i default) k n)) :=
  markF_law k l n m g [] [] z K hK (by simpa using hnd) (by simpa using hin) (by simpa using hall) (by simpa using hs) ⟨List.nodup_nil, fun p => by simp, .inl rfl, .inl rfl⟩
/-- Kept as one of the four kinds. -/
def keptAny (p : Pol) (l : List Rf) (x : Rf) : Bool := keptD l x 0 p.d || keptD l x 1 p.w || keptD l x 2 p.mo || keptD l x 3 p.y
/-- Which snapshots are kept. -/
def keepD (p : Pol) (l : List Rf) (now : Int) : List Bool := l.map fun x => decide (polE p ≠ 0) || keptAny p l x || decide (now < x.til)
theorem keepD_len (p : Pol) (l : List Rf) (now : Int) : (keepD p l now).length = l.length := by simp [keepD]
end Go.Proofs.YtmncgnmgdkdhaaaGreatDoor.Pl
