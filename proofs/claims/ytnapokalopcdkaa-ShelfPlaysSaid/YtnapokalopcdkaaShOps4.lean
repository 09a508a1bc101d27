/- Plain Lean: what a shelf may be, and that Put and Drop leave one that may be. No program in sight. -/
import Derived.Test.YtnapokalopcdkaaShOps3
namespace Go.Proofs.Ytnapokalopcdkaa.Pl
def OkO (o : Obj) : Prop := okName o.name = true ∧ o.data.length ≤ 65536 ∧ o.was.length ≤ 65536 ∧ (o.had = true ∨ o.was = [])
theorem objE_of {prev : Option (List UInt8)} {o : Obj} (h : OkO o) (hp : prev.elim true (fun p => less p o.name) = true) : objE prev o = 0 := by
  obtain ⟨nm, dt, ws, hd⟩ := o
  obtain ⟨h0, h1, h2, h3⟩ := h
  refine objE_0 h0 ?_ ?_ ⟨h1, h2⟩ h3
  · cases prev with
    | none => rfl
    | some p =>
      simp only [Option.elim] at hp ⊢
      rw [beq_eq_false_iff_ne]
      rintro rfl
      rw [less_irrefl] at hp; cases hp
  · cases prev with
    | none => rfl
    | some p => exact less_asymm hp
theorem chkFrom_of {l : List Obj} (h : ∀ j (hj : j < l.length), objE (prevOf l j) l[j] = 0) : ∀ k i, chkFrom l k i = 0
  | 0, _ => rfl
  | k + 1, i => by
    rcases Nat.lt_or_ge i l.length with hi | hi
    · rw [chkFrom_step l k i hi, if_pos (h i hi)]; exact chkFrom_of h k (i + 1)
    · exact chkFrom_end l i hi _
def Rise (l : List Obj) : Prop := l.Pairwise (fun a b => less a.name b.name = true)
theorem rise_iff (l : List Obj) : Rise l ↔ Rising l := by
  unfold Rise Rising
  rw [List.pairwise_iff_getElem]
theorem chk_iff (l : List Obj) : chk l = 0 ↔ Rise l ∧ ∀ o ∈ l, OkO o := by
  constructor
  · intro h
    refine ⟨(rise_iff l).2 (chk_rising h), fun o ho => ?_⟩
    obtain ⟨k, hk, rfl⟩ := List.getElem_of_mem ho
    obtain ⟨h0, -, h2, h3, h4⟩ := objE_zero (chk_zero h k hk)
    exact ⟨h0, h2, h3, h4⟩
  · rintro ⟨hr, ho⟩
    have hr' := (rise_iff l).1 hr
    refine chkFrom_of (fun j hj => objE_of (ho _ (List.getElem_mem hj)) ?_) _ _
    unfold prevOf
    split
    · rfl
    · next h0 =>
      rw [List.getElem?_eq_getElem (by omega)]
      exact hr' (j - 1) j (by omega) hj (by omega)
theorem below_mem {l : List Obj} {nm : List UInt8} {o : Obj} : o ∈ below l nm ↔ o ∈ l ∧ less o.name nm = true := by unfold below; simp
theorem above_mem {l : List Obj} {nm : List UInt8} {o : Obj} : o ∈ above l nm ↔ o ∈ l ∧ less nm o.name = true := by unfold above; simp
theorem rise_drop {l : List Obj} (h : Rise l) (nm : List UInt8) : Rise (dropL l nm) := by
  unfold dropL Rise
  rw [List.pairwise_append]
  refine ⟨h.filter _, h.filter _, fun a ha b hb => ?_⟩
  exact less_trans (below_mem.1 ha).2 (above_mem.1 hb).2
theorem rise_put {l : List Obj} (h : Rise l) (nm d : List UInt8) : Rise (putL l nm d) := by
  unfold putL Rise
  rw [List.pairwise_append, List.pairwise_cons]
  refine ⟨h.filter _, ⟨fun a ha => (above_mem.1 ha).2, h.filter _⟩, fun a ha b hb => ?_⟩
  rcases List.mem_cons.1 hb with rfl | hb
  · exact (below_mem.1 ha).2
  · exact less_trans (below_mem.1 ha).2 (above_mem.1 hb).2
theorem find_mem {l : List Obj} {nm : List UInt8} {o : Obj} (h : findO l nm = some o) : o ∈ l ∧ o.name = nm := by
  unfold findO at h
  exact ⟨List.mem_of_find?_eq_some h, by simpa using List.find?_some h⟩
theorem chk_drop {l : List Obj} (h : chk l = 0) (nm : List UInt8) : chk (dropL l nm) = 0 := by
  rw [chk_iff] at h ⊢
  refine ⟨rise_drop h.1 nm, fun o ho => ?_⟩
  unfold dropL at ho
  rcases List.mem_append.1 ho with ho | ho
  · exact h.2 o (below_mem.1 ho).1
  · exact h.2 o (above_mem.1 ho).1
theorem chk_put {l : List Obj} (h : chk l = 0) {nm d : List UInt8} (hn : okName nm = true) (hd : d.length ≤ 65536) : chk (putL l nm d) = 0 := by
  rw [chk_iff] at h ⊢
  refine ⟨rise_put h.1 nm d, fun o ho => ?_⟩
  unfold putL at ho
  rcases List.mem_append.1 ho with ho | ho
  · exact h.2 o (below_mem.1 ho).1
  · rcases List.mem_cons.1 ho with rfl | ho
    · unfold newO
      cases hf : findO l nm with
      | none => exact ⟨hn, hd, Nat.zero_le _, .inr rfl⟩
      | some x => exact ⟨hn, hd, (h.2 x (find_mem hf).1).2.1, .inl rfl⟩
    · exact h.2 o (above_mem.1 ho).1
/-- In a rising list the object of a name is the only one. -/
theorem find_of {l : List Obj} (h : Rise l) {o : Obj} (ho : o ∈ l) : findO l o.name = some o := by
  cases hf : findO l o.name with
  | none =>
    unfold findO at hf
    rw [List.find?_eq_none] at hf
    exact absurd (hf o ho) (by simp)
  | some x =>
    obtain ⟨hx, he⟩ := find_mem hf
    obtain ⟨i, hi, rfl⟩ := List.getElem_of_mem ho
    obtain ⟨j, hj, rfl⟩ := List.getElem_of_mem hx
    have := rising_inj ((rise_iff l).1 h) hj hi he
    subst this
    rfl
theorem find_none {l : List Obj} {nm : List UInt8} (h : ∀ o ∈ l, o.name ≠ nm) : findO l nm = none := by
  unfold findO
  rw [List.find?_eq_none]
  intro o ho
  simpa using h o ho
theorem find_put_same {l : List Obj} (h : Rise l) (nm d : List UInt8) : findO (putL l nm d) nm = some (newO l nm d) := by
  have := find_of (rise_put h nm d) (o := newO l nm d) (by unfold putL; simp)
  exact this
theorem find_same {l l' : List Obj} (h : Rise l) (h' : Rise l') {x : List UInt8} (he : ∀ o, o.name = x → (o ∈ l ↔ o ∈ l')) : findO l x = findO l' x := by
  cases hf : findO l x with
  | none =>
    refine (find_none fun o ho hx => ?_).symm
    have h1 := (he o hx).2 ho
    have := find_of h h1
    rw [hx, hf] at this; cases this
  | some o =>
    obtain ⟨h1, h2⟩ := find_mem hf
    have := find_of h' ((he o h2).1 h1)
    rw [h2] at this
    exact this.symm
theorem mem_both {l : List Obj} {nm : List UInt8} {o : Obj} (hne : o.name ≠ nm) : (o ∈ l ↔ o ∈ below l nm ∨ o ∈ above l nm) := by
  constructor
  · intro ho
    rcases less_tri o.name nm with h | h | h
    · exact .inl (below_mem.2 ⟨ho, h⟩)
    · exact absurd h hne
    · exact .inr (above_mem.2 ⟨ho, h⟩)
  · rintro (h | h)
    · exact (below_mem.1 h).1
    · exact (above_mem.1 h).1
theorem find_put_other {l : List Obj} (h : Rise l) (nm d : List UInt8) {x : List UInt8} (hx : x ≠ nm) : findO (putL l nm d) x = findO l x := by
  refine find_same (rise_put h nm d) h fun o ho => ?_
  have hne : o.name ≠ nm := by rw [ho]; exact hx
  rw [mem_both (l := l) hne]
  unfold putL
  rw [List.mem_append, List.mem_cons]
  constructor
  · rintro (h | h | h)
    · exact .inl h
    · subst h; exact absurd rfl hne
    · exact .inr h
  · rintro (h | h)
    · exact .inl h
    · exact .inr (.inr h)
theorem find_drop_other {l : List Obj} (h : Rise l) (nm : List UInt8) {x : List UInt8} (hx : x ≠ nm) : findO (dropL l nm) x = findO l x := by
  refine find_same (rise_drop h nm) h fun o ho => ?_
  have hne : o.name ≠ nm := by rw [ho]; exact hx
  rw [mem_both (l := l) hne]
  unfold dropL
  rw [List.mem_append]
theorem find_drop_same (l : List Obj) (nm : List UInt8) : findO (dropL l nm) nm = none := by
  refine find_none fun o ho he => ?_
  unfold dropL at ho
  rcases List.mem_append.1 ho with h | h
  · have := (below_mem.1 h).2; rw [he, less_irrefl] at this; cases this
  · have := (above_mem.1 h).2; rw [he, less_irrefl] at this; cases this
theorem put_len (l : List Obj) (nm d : List UInt8) : (putL l nm d).length ≤ l.length * 2 + 1 := by
  unfold putL below above
  have h1 := List.length_filter_le (fun o : Obj => less o.name nm) l
  have h2 := List.length_filter_le (fun o : Obj => less nm o.name) l
  simp only [List.length_append, List.length_cons]; omega
theorem put_len1 {l : List Obj} (nm d : List UInt8) : (putL l nm d).length ≤ l.length + 1 := by
  unfold putL below above
  simp only [List.length_append, List.length_cons]
  have : ∀ l : List Obj, (l.filter (fun o => less o.name nm)).length + (l.filter (fun o => less nm o.name)).length ≤ l.length := by
    intro l
    induction l with
    | nil => simp
    | cons o l ih =>
      simp only [List.filter_cons]
      cases h1 : less o.name nm
      · cases h2 : less nm o.name
        · simp; omega
        · simp; omega
      · rw [less_asymm h1]; simp; omega
  have := this l
  omega
theorem drop_len (l : List Obj) (nm : List UInt8) : (dropL l nm).length ≤ l.length := by
  have h := put_len1 (l := l) nm []
  unfold putL at h
  unfold dropL
  simp only [List.length_append, List.length_cons] at h ⊢
  omega
theorem put_data {l : List Obj} {nm d : List UInt8} {k : Nat} (h : ∀ o ∈ l, o.data.length ≤ k) (hd : d.length ≤ k) : ∀ o ∈ putL l nm d, o.data.length ≤ k := by
  intro o ho
  unfold putL at ho
  rcases List.mem_append.1 ho with ho | ho
  · exact h o (below_mem.1 ho).1
  · rcases List.mem_cons.1 ho with rfl | ho
    · exact hd
    · exact h o (above_mem.1 ho).1
theorem drop_data {l : List Obj} {nm : List UInt8} {k : Nat} (h : ∀ o ∈ l, o.data.length ≤ k) : ∀ o ∈ dropL l nm, o.data.length ≤ k := by
  intro o ho
  unfold dropL at ho
  rcases List.mem_append.1 ho with ho | ho
  · exact h o (below_mem.1 ho).1
  · exact h o (above_mem.1 ho).1
theorem flip_len (d : List UInt8) : (flip d).length = d.length := by
  unfold flip
  split
  · next h => rw [List.getLast?_eq_none_iff] at h; rw [h]
  · next c h =>
    have : d ≠ [] := by rintro rfl; simp at h
    have := List.length_pos_iff.2 this
    simp; omega
/-- A text that has another as its front isn't less. -/
theorem pre_not_less : ∀ (s p : List UInt8), s.take p.length = p → less s p = false
  | _, [], _ => by unfold less; cases ‹List UInt8› <;> rfl
  | [], b :: p, h => by simp at h
  | a :: s, b :: p, h => by
    simp only [List.length_cons, List.take_succ_cons, List.cons.injEq] at h
    obtain ⟨rfl, h⟩ := h
    have ih := pre_not_less s p h
    unfold less at ih ⊢
    unfold Op.bytesLess
    simp [ih]
theorem nms_first {l : List Obj} {nm d : List UInt8} {f : Int} (hf : f ≠ 3) : ∃ r, nms (putL l nm d) f nm = nm :: r := by
  unfold nms putL
  rw [List.filter_append]
  have h1 : (below l nm).filter (selN f nm) = [] := by
    rw [List.filter_eq_nil_iff]
    intro o ho hs
    have h2 := (below_mem.1 ho).2
    unfold selN hasPre at hs
    simp only [Bool.and_eq_true, decide_eq_true_eq, beq_iff_eq] at hs
    rw [pre_not_less _ _ hs.1.2] at h2; cases h2
  have h2 : selN f nm (newO l nm d) = true := by
    unfold selN hasPre newO
    simp [hf]
  rw [h1, List.filter_cons, if_pos h2]
  exact ⟨_, rfl⟩
end Go.Proofs.Ytnapokalopcdkaa.Pl
