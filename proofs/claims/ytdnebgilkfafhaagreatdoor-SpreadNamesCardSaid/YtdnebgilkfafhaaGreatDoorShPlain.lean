/- Plain Lean: a shelf. No program in sight. Plain Lean: the order of texts; where a name stands among rising names. Plain Lean: what the calls of a shelf answer. No program in sight. Plain Lean: Put and Drop of a shelf. No program in sight. Plain Lean: Names of a shelf. No program in sight. Plain Lean: what a shelf may be, and that Put and Drop leave one that may be. No program in sight. -/
import Derived.WalkKit
import Derived.Test.YtdnebgilkfafhaaGreatDoorBase
import Derived.Lib.Bytealg
namespace Go.Proofs.YtdnebgilkfafhaaGreatDoor.Pl

structure Obj where
  name : List UInt8
  data : List UInt8
  was : List UInt8
  had : Bool
structure Shelf where
  objs : List Obj
  fates : List Int

def okName (s : List UInt8) : Bool := decide (1 ≤ s.length ∧ s.length ≤ 100)
/-- Why one object may not be, with the name ahead of it. -/
def objE (prev : Option (List UInt8)) (o : Obj) : Nat :=
  if okName o.name = false then 7
  else if prev.elim false (fun p => o.name == p) then 8
  else if prev.elim false (fun p => Op.bytesLess o.name p) then 2
  else if 65536 < o.data.length ∨ 65536 < o.was.length then 6
  else if o.had = false ∧ o.was ≠ [] then 3
  else 0
def prevOf (l : List Obj) (i : Nat) : Option (List UInt8) := if i = 0 then none else (l[i - 1]?).map (·.name)
/-- The first error from the i-th object on. -/
def chkFrom (l : List Obj) : Nat → Nat → Nat
  | 0, _ => 0
  | k + 1, i => match l[i]? with
    | none => 0
    | some o => if objE (prevOf l i) o = 0 then chkFrom l k (i + 1) else objE (prevOf l i) o
def chk (l : List Obj) : Nat := chkFrom l l.length 0
theorem chkFrom_end (l : List Obj) (i : Nat) (h : l.length ≤ i) : ∀ k, chkFrom l k i = 0
  | 0 => rfl
  | k + 1 => by unfold chkFrom; rw [List.getElem?_eq_none h]
theorem chkFrom_step (l : List Obj) (k i : Nat) (h : i < l.length) : chkFrom l (k + 1) i = if objE (prevOf l i) l[i] = 0 then chkFrom l k (i + 1) else objE (prevOf l i) l[i] := by
  show (match l[i]? with | none => 0 | some o => _) = _
  rw [List.getElem?_eq_getElem h]
/-- Bytes of which the last one's lowest bit is turned. -/
def flipB (c : UInt8) : UInt8 := c ^^^ 1
def flip (b : List UInt8) : List UInt8 := match b.getLast? with
  | none => []
  | some c => b.dropLast ++ [flipB c]
section
variable {prev : Option (List UInt8)} {nm dt ws : List UInt8} {hd : Bool} (h0 : okName nm = true) (h1 : prev.elim false (fun p => nm == p) = false) (h2 : prev.elim false (fun p => Op.bytesLess nm p) = false)
include h0 h1 h2
theorem objE_6 (h : 65536 < dt.length ∨ 65536 < ws.length) : objE prev ⟨nm, dt, ws, hd⟩ = 6 := by simp [objE, h0, h1, h2, h]
theorem objE_3 (h : dt.length ≤ 65536 ∧ ws.length ≤ 65536) (h3 : hd = false) (h4 : ws ≠ []) : objE prev ⟨nm, dt, ws, hd⟩ = 3 := by
  have : ¬ (65536 < dt.length ∨ 65536 < ws.length) := by omega
  simp [objE, h0, h1, h2, this, h3, h4]
theorem objE_0 (h : dt.length ≤ 65536 ∧ ws.length ≤ 65536) (h3 : hd = true ∨ ws = []) : objE prev ⟨nm, dt, ws, hd⟩ = 0 := by
  have : ¬ (65536 < dt.length ∨ 65536 < ws.length) := by omega
  have h4 : ¬ (hd = false ∧ ws ≠ []) := by rintro ⟨a, b⟩; rcases h3 with h | h <;> simp_all
  simp only [objE, h0, h1, h2, this, h4, if_false]; simp
end
theorem objE_8 {prev : Option (List UInt8)} {nm dt ws : List UInt8} {hd : Bool} (h0 : okName nm = true) (h1 : prev.elim false (fun p => nm == p) = true) : objE prev ⟨nm, dt, ws, hd⟩ = 8 := by simp [objE, h0, h1]
theorem objE_2 {prev : Option (List UInt8)} {nm dt ws : List UInt8} {hd : Bool} (h0 : okName nm = true) (h1 : prev.elim false (fun p => nm == p) = false) (h2 : prev.elim false (fun p => Op.bytesLess nm p) = true) : objE prev ⟨nm, dt, ws, hd⟩ = 2 := by simp [objE, h0, h1, h2]
theorem ret_obj {a x E k : Nat} (h : (if x = 0 then a else x) = E) (hx : x = k) (hk : k ≠ 0) : E = k := by subst hx; rw [if_neg hk] at h; exact h.symm
end Go.Proofs.YtdnebgilkfafhaaGreatDoor.Pl
namespace Go.Proofs.YtdnebgilkfafhaaGreatDoor.Pl
/-- Rising names. -/
def Rising (l : List Obj) : Prop := ∀ i j (hi : i < l.length) (hj : j < l.length), i < j → less l[i].name l[j].name = true
/-- Where a name stands, or would. -/
structure Found (l : List Obj) (nm : List UInt8) (i : Nat) (f : Bool) : Prop where
  le : i ≤ l.length
  lo : ∀ k (h : k < l.length), k < i → less l[k].name nm = true
  hi : ∀ k (h : k < l.length), i ≤ k → less l[k].name nm = false
  is : f = decide (∃ h : i < l.length, l[i].name = nm)
theorem objE_zero {prev : Option (List UInt8)} {o : Obj} (h : objE prev o = 0) : okName o.name = true ∧ prev.elim true (fun p => less p o.name) = true ∧ o.data.length ≤ 65536 ∧ o.was.length ≤ 65536 ∧ (o.had = true ∨ o.was = []) := by
  unfold objE at h
  split at h
  · omega
  split at h
  · omega
  split at h
  · omega
  split at h
  · omega
  split at h
  · omega
  · next h1 h2 h3 h4 h5 =>
    refine ⟨by simpa using h1, ?_, by omega, by omega, ?_⟩
    · cases prev with
      | none => rfl
      | some p =>
        simp only [Option.elim] at h2 h3 ⊢
        rcases less_tri p o.name with h | h | h
        · exact h
        · subst h; simp at h2
        · exact absurd h h3
    · by_cases hh : o.had = true
      · exact .inl hh
      · refine .inr ?_
        by_cases hw : o.was = []
        · exact hw
        · exact absurd ⟨by simpa using hh, hw⟩ h5
theorem chkFrom_zero (l : List Obj) : ∀ (k i : Nat), i + k = l.length → chkFrom l k i = 0 → ∀ j (h : j < l.length), i ≤ j → objE (prevOf l j) l[j] = 0
  | 0, i, hk, _, j, hj, hij => by omega
  | k + 1, i, hk, h0, j, hj, hij => by
    rw [chkFrom_step l k i (by omega)] at h0
    by_cases he : objE (prevOf l i) (l[i]'(by omega)) = 0
    · rw [if_pos he] at h0
      rcases Nat.eq_or_lt_of_le hij with rfl | hlt
      · exact he
      · exact chkFrom_zero l k (i + 1) (by omega) h0 j hj hlt
    · rw [if_neg he] at h0; exact absurd h0 he
theorem chk_zero {l : List Obj} (h : chk l = 0) (j : Nat) (hj : j < l.length) : objE (prevOf l j) l[j] = 0 := chkFrom_zero l l.length 0 (by omega) h j hj (Nat.zero_le _)
theorem chk_rising {l : List Obj} (h : chk l = 0) : Rising l := by
  have step : ∀ j (hj : j + 1 < l.length), less l[j].name l[j + 1].name = true := by
    intro j hj
    have h1 := (objE_zero (chk_zero h (j + 1) hj)).2.1
    unfold prevOf at h1
    rw [if_neg (by omega), Nat.add_sub_cancel, List.getElem?_eq_getElem (by omega)] at h1
    exact h1
  intro i j hi hj hij
  obtain ⟨d, rfl⟩ : ∃ d, j = i + 1 + d := ⟨j - (i + 1), by omega⟩
  clear hij
  induction d with
  | zero => exact step i hj
  | succ d ih => exact less_trans (ih (by omega)) (step (i + 1 + d) hj)
/-- What is known behind i and j. -/
theorem found_of {l : List Obj} {nm : List UInt8} {i : Nat} (hle : i ≤ l.length) (h1 : ∀ k (h : k < l.length), k < i → less l[k].name nm = true) (h2 : ∀ k (h : k < l.length), i ≤ k → less l[k].name nm = false) {f : Bool} (hf : f = decide (∃ h : i < l.length, l[i].name = nm)) : Found l nm i f := ⟨hle, h1, h2, hf⟩
end Go.Proofs.YtdnebgilkfafhaaGreatDoor.Pl
namespace Go.Proofs.YtdnebgilkfafhaaGreatDoor.Pl
def askE (l : List Obj) (nm : List UInt8) : Nat := if chk l ≠ 0 then chk l else if okName nm = false then 7 else 0
theorem askE_ok {l : List Obj} {nm : List UInt8} (h : askE l nm = 0) : chk l = 0 ∧ okName nm = true := by
  unfold askE at h
  split at h
  · next h1 => exact absurd h h1
  · next h1 =>
    split at h
    · omega
    · next h2 => exact ⟨by omega, by simpa using h2⟩
def findO (l : List Obj) (nm : List UInt8) : Option Obj := l.find? (fun o => o.name == nm)
def getR (l : List Obj) (f : Int) (nm : List UInt8) : List UInt8 × Nat :=
  if f = 4 then ([], 17) else match findO l nm with
  | none => ([], 9)
  | some o => if f = 1 ∨ (f = 3 ∧ o.had = false) then ([], 9) else if f = 3 then (o.was, 0) else if f = 2 then (flip o.data, 0) else (o.data, 0)
theorem rising_inj {l : List Obj} (h : Rising l) {i j : Nat} (hi : i < l.length) (hj : j < l.length) (he : l[i].name = l[j].name) : i = j := by
  rcases Nat.lt_trichotomy i j with h1 | h1 | h1
  · have := h i j hi hj h1; rw [he, less_irrefl] at this; cases this
  · exact h1
  · have := h j i hj hi h1; rw [he, less_irrefl] at this; cases this
theorem found_yes {l : List Obj} {nm : List UInt8} {i : Nat} (h : Found l nm i true) : ∃ hi : i < l.length, l[i].name = nm ∧ findO l nm = some l[i] := by
  have h1 := h.is
  obtain ⟨hi, he⟩ := of_decide_eq_true h1.symm
  refine ⟨hi, he, ?_⟩
  unfold findO
  rw [List.find?_eq_some_iff_getElem]
  refine ⟨by simpa using he, i, hi, rfl, fun j hj => ?_⟩
  have := h.lo j (by omega) hj
  simp only [Bool.not_eq_true', beq_eq_false_iff_ne]
  intro e
  rw [e, less_irrefl] at this
  cases this
theorem found_no {l : List Obj} {nm : List UInt8} {i : Nat} (h : Found l nm i false) (hs : Rising l) : findO l nm = none := by
  have h1 := of_decide_eq_false h.is.symm
  unfold findO
  rw [List.find?_eq_none]
  intro o ho
  obtain ⟨k, hk, rfl⟩ := List.getElem_of_mem ho
  simp only [beq_iff_eq]
  intro e
  rcases Nat.lt_trichotomy k i with h2 | h2 | h2
  · have := h.lo k hk h2; rw [e, less_irrefl] at this; cases this
  · subst h2; exact h1 ⟨hk, e⟩
  · have h3 := hs i k (by omega) hk h2
    have h4 := h.hi i (by omega) (Nat.le_refl _)
    rw [e, h4] at h3; cases h3
end Go.Proofs.YtdnebgilkfafhaaGreatDoor.Pl
namespace Go.Proofs.YtdnebgilkfafhaaGreatDoor.Pl
def below (l : List Obj) (nm : List UInt8) : List Obj := l.filter (fun o => less o.name nm)
def above (l : List Obj) (nm : List UInt8) : List Obj := l.filter (fun o => less nm o.name)
def newO (l : List Obj) (nm d : List UInt8) : Obj := ⟨nm, d, (findO l nm).elim [] (·.data), (findO l nm).isSome⟩
def putL (l : List Obj) (nm d : List UInt8) : List Obj := below l nm ++ (newO l nm d :: above l nm)
def dropL (l : List Obj) (nm : List UInt8) : List Obj := below l nm ++ above l nm
/-- What Put answers: the objects, the error. -/
def putR (l : List Obj) (f : Int) (nm d : List UInt8) : List Obj × Nat :=
  if f = 4 then (l, 17) else if f = 1 ∨ f = 3 then (l, 0) else (putL l nm (if f = 2 then flip d else d), 0)
def dropR (l : List Obj) (f : Int) (nm : List UInt8) : List Obj × Nat :=
  if f = 4 then (l, 17) else if f = 1 ∨ f = 3 then (l, 0) else if (findO l nm).isSome then (dropL l nm, 0) else (l, 9)
theorem filter_split {α : Type} (p : α → Bool) (l : List α) (i : Nat) (h1 : ∀ k (h : k < l.length), k < i → p l[k] = true) (h2 : ∀ k (h : k < l.length), i ≤ k → p l[k] = false) : l.filter p = l.take i := by
  rw [← List.take_append_drop i l, List.filter_append]
  have e1 : (l.take i).filter p = l.take i := by
    rw [List.filter_eq_self]
    intro a ha
    obtain ⟨k, hk, rfl⟩ := List.getElem_of_mem ha
    rw [List.length_take] at hk
    rw [List.getElem_take]
    exact h1 k (by omega) (by omega)
  have e2 : (l.drop i).filter p = [] := by
    rw [List.filter_eq_nil_iff]
    intro a ha
    obtain ⟨k, hk, rfl⟩ := List.getElem_of_mem ha
    rw [List.length_drop] at hk
    rw [List.getElem_drop, h2 (i + k) (by omega) (by omega)]
    simp
  rw [e1, e2, List.take_append_drop]; simp
theorem filter_split2 {α : Type} (p : α → Bool) (l : List α) (i : Nat) (h1 : ∀ k (h : k < l.length), k < i → p l[k] = false) (h2 : ∀ k (h : k < l.length), i ≤ k → p l[k] = true) : l.filter p = l.drop i := by
  rw [← List.take_append_drop i l, List.filter_append]
  have e1 : (l.take i).filter p = [] := by
    rw [List.filter_eq_nil_iff]
    intro a ha
    obtain ⟨k, hk, rfl⟩ := List.getElem_of_mem ha
    rw [List.length_take] at hk
    rw [List.getElem_take, h1 k (by omega) (by omega)]
    simp
  have e2 : (l.drop i).filter p = l.drop i := by
    rw [List.filter_eq_self]
    intro a ha
    obtain ⟨k, hk, rfl⟩ := List.getElem_of_mem ha
    rw [List.length_drop] at hk
    rw [List.getElem_drop]
    exact h2 (i + k) (by omega) (by omega)
  rw [e1, e2, List.take_append_drop]; simp
theorem less_asymm {a b : List UInt8} (h : less a b = true) : less b a = false := by
  cases h' : less b a
  · rfl
  · have := less_trans h h'; rw [less_irrefl] at this; cases this
section
variable {l : List Obj} {nm : List UInt8} {i : Nat}
theorem below_found {f : Bool} (h : Found l nm i f) : below l nm = l.take i := filter_split _ l i h.lo h.hi
theorem above_yes (h : Found l nm i true) (hs : Rising l) : above l nm = l.drop (i + 1) := by
  obtain ⟨hi, he, -⟩ := found_yes h
  refine filter_split2 _ l (i + 1) (fun k hk hki => ?_) (fun k hk hki => ?_)
  · rcases Nat.lt_or_ge k i with h1 | h1
    · exact less_asymm (h.lo k hk h1)
    · obtain rfl : k = i := by omega
      show less nm l[k].name = false
      rw [he, less_irrefl]
  · have := hs i k hi hk hki
    rwa [he] at this
theorem above_no (h : Found l nm i false) (hs : Rising l) : above l nm = l.drop i := by
  have hno := found_no h hs
  refine filter_split2 _ l i (fun k hk hki => less_asymm (h.lo k hk hki)) (fun k hk hki => ?_)
  have h1 := h.hi k hk hki
  rcases less_tri nm l[k].name with h2 | h2 | h2
  · exact h2
  · exfalso
    unfold findO at hno
    rw [List.find?_eq_none] at hno
    exact hno l[k] (List.getElem_mem hk) (by simp [h2])
  · rw [h2] at h1; cases h1
theorem put_yes (h : Found l nm i true) (hs : Rising l) (d : List UInt8) : ∃ hi : i < l.length, putL l nm d = l.set i ⟨nm, d, l[i].data, true⟩ := by
  obtain ⟨hi, he, hf⟩ := found_yes h
  refine ⟨hi, ?_⟩
  unfold putL newO
  rw [below_found h, above_yes h hs, hf, List.set_eq_take_append_cons_drop, if_pos hi]
  rfl
theorem put_no (h : Found l nm i false) (hs : Rising l) (d : List UInt8) : putL l nm d = l.take i ++ (⟨nm, d, [], false⟩ :: l.drop i) := by
  unfold putL newO
  rw [below_found h, above_no h hs, found_no h hs]
  rfl
theorem drop_yes (h : Found l nm i true) (hs : Rising l) : dropL l nm = l.take i ++ l.drop (i + 1) := by
  unfold dropL; rw [below_found h, above_yes h hs]
end
end Go.Proofs.YtdnebgilkfafhaaGreatDoor.Pl
namespace Go.Proofs.YtdnebgilkfafhaaGreatDoor.Pl
def hasPre (s p : List UInt8) : Bool := decide (p.length ≤ s.length) && (s.take p.length == p)
def selN (f : Int) (p : List UInt8) (o : Obj) : Bool := hasPre o.name p && (f != 3 || o.had)
def nms (l : List Obj) (f : Int) (p : List UInt8) : List (List UInt8) := (l.filter (selN f p)).map (·.name)
/-- What Names answers: the names, the error. -/
def namesR (l : List Obj) (f : Int) (p : List UInt8) : List (List UInt8) × Nat :=
  if f = 4 then ([], 17) else if f = 1 then ([], 0) else (nms l f p, 0)
theorem nms_step (l : List Obj) (f : Int) (p : List UInt8) (j : Nat) (h : j < l.length) : nms (l.take (j + 1)) f p = nms (l.take j) f p ++ (if selN f p l[j] then [l[j].name] else []) := by
  unfold nms
  rw [List.take_succ_eq_append_getElem h, List.filter_append, List.map_append]
  by_cases hs : selN f p l[j] = true
  · simp [hs]
  · simp [hs]
theorem nms_len (l : List Obj) (f : Int) (p : List UInt8) : (nms l f p).length ≤ l.length := by
  unfold nms; rw [List.length_map]; exact List.length_filter_le _ _
end Go.Proofs.YtdnebgilkfafhaaGreatDoor.Pl
namespace Go.Proofs.YtdnebgilkfafhaaGreatDoor.Pl
def OkO (o : Obj) : Prop := okName o.name = true ∧ o.data.length ≤ 65536 ∧ o.was.length ≤ 65536 ∧ (o.had = true ∨ o.was = [])
theorem objE_of {prev : Option (List UInt8)} {o : Obj} (h : OkO o) (hp : prev.elim true (fun p => less p o.name) = true) : objE prev o = 0 := by
  obtain ⟨nm, dt, ws, hd⟩ := o
  obtain ⟨h0, h1, h2, h3⟩ := h
  refine objE_0 h0 ?_ ?_ ⟨h1, h2⟩ h3
  · cases prev with
    | none => rfl
    | some p =>
      simp only [Option.elim] at hp ⊢
      rw [beq_eq_false_iff_ne]
      rintro rfl
      rw [less_irrefl] at hp; cases hp
  · cases prev with
    | none => rfl
    | some p => exact less_asymm hp
theorem chkFrom_of {l : List Obj} (h : ∀ j (hj : j < l.length), objE (prevOf l j) l[j] = 0) : ∀ k i, chkFrom l k i = 0
  | 0, _ => rfl
  | k + 1, i => by
    rcases Nat.lt_or_ge i l.length with hi | hi
    · rw [chkFrom_step l k i hi, if_pos (h i hi)]; exact chkFrom_of h k (i + 1)
    · exact chkFrom_end l i hi _
def Rise (l : List Obj) : Prop := l.Pairwise (fun a b => less a.name b.name = true)
theorem rise_iff (l : List Obj) : Rise l ↔ Rising l := by
  unfold Rise Rising
  rw [List.pairwise_iff_getElem]
theorem chk_iff (l : List Obj) : chk l = 0 ↔ Rise l ∧ ∀ o ∈ l, OkO o := by
  constructor
  · intro h
    refine ⟨(rise_iff l).2 (chk_rising h), fun o ho => ?_⟩
    obtain ⟨k, hk, rfl⟩ := List.getElem_of_mem ho
    obtain ⟨h0, -, h2, h3, h4⟩ := objE_zero (chk_zero h k hk)
    exact ⟨h0, h2, h3, h4⟩
  · rintro ⟨hr, ho⟩
    have hr' := (rise_iff l).1 hr
    refine chkFrom_of (fun j hj => objE_of (ho _ (List.getElem_mem hj)) ?_) _ _
    unfold prevOf
    split
    · rfl
    · next h0 =>
      rw [List.getElem?_eq_getElem (by omega)]
      exact hr' (j - 1) j (by omega) hj (by omega)
theorem below_mem {l : List Obj} {nm : List UInt8} {o : Obj} : o ∈ below l nm ↔ o ∈ l ∧ less o.name nm = true := by unfold below; simp
theorem above_mem {l : List Obj} {nm : List UInt8} {o : Obj} : o ∈ above l nm ↔ o ∈ l ∧ less nm o.name = true := by unfold above; simp
theorem rise_drop {l : List Obj} (h : Rise l) (nm : List UInt8) : Rise (dropL l nm) := by
  unfold dropL Rise
  rw [List.pairwise_append]
  refine ⟨h.filter _, h.filter _, fun a ha b hb => ?_⟩
  exact less_trans (below_mem.1 ha).2 (above_mem.1 hb).2
theorem rise_put {l : List Obj} (h : Rise l) (nm d : List UInt8) : Rise (putL l nm d) := by
  unfold putL Rise
  rw [List.pairwise_append, List.pairwise_cons]
  refine ⟨h.filter _, ⟨fun a ha => (above_mem.1 ha).2, h.filter _⟩, fun a ha b hb => ?_⟩
  rcases List.mem_cons.1 hb with rfl | hb
  · exact (below_mem.1 ha).2
  · exact less_trans (below_mem.1 ha).2 (above_mem.1 hb).2
theorem find_mem {l : List Obj} {nm : List UInt8} {o : Obj} (h : findO l nm = some o) : o ∈ l ∧ o.name = nm := by
  unfold findO at h
  exact ⟨List.mem_of_find?_eq_some h, by simpa using List.find?_some h⟩
theorem chk_drop {l : List Obj} (h : chk l = 0) (nm : List UInt8) : chk (dropL l nm) = 0 := by
  rw [chk_iff] at h ⊢
  refine ⟨rise_drop h.1 nm, fun o ho => ?_⟩
  unfold dropL at ho
  rcases List.mem_append.1 ho with ho | ho
  · exact h.2 o (below_mem.1 ho).1
  · exact h.2 o (above_mem.1 ho).1
theorem chk_put {l : List Obj} (h : chk l = 0) {nm d : List UInt8} (hn : okName nm = true) (hd : d.length ≤ 65536) : chk (putL l nm d) = 0 := by
  rw [chk_iff] at h ⊢
  refine ⟨rise_put h.1 nm d, fun o ho => ?_⟩
  unfold putL at ho
  rcases List.mem_append.1 ho with ho | ho
  · exact h.2 o (below_mem.1 ho).1
  · rcases List.mem_cons.1 ho with rfl | ho
    · unfold newO
      cases hf : findO l nm with
      | none => exact ⟨hn, hd, Nat.zero_le _, .inr rfl⟩
      | some x => exact ⟨hn, hd, (h.2 x (find_mem hf).1).2.1, .inl rfl⟩
    · exact h.2 o (above_mem.1 ho).1
/-- In a rising list the object of a name is the only one. -/
theorem find_of {l : List Obj} (h : Rise l) {o : Obj} (ho : o ∈ l) : findO l o.name = some o := by
  cases hf : findO l o.name with
  | none =>
    unfold findO at hf
    rw [List.find?_eq_none] at hf
    exact absurd (hf o ho) (by simp)
  | some x =>
    obtain ⟨hx, he⟩ := find_mem hf
    obtain ⟨i, hi, rfl⟩ := List.getElem_of_mem ho
    obtain ⟨j, hj, rfl⟩ := List.getElem_of_mem hx
    have := rising_inj ((rise_iff l).1 h) hj hi he
    subst this
    rfl
theorem find_none {l : List Obj} {nm : List UInt8} (h : ∀ o ∈ l, o.name ≠ nm) : findO l nm = none := by
  unfold findO
  rw [List.find?_eq_none]
  intro o ho
  simpa using h o ho
theorem find_put_same {l : List Obj} (h : Rise l) (nm d : List UInt8) : findO (putL l nm d) nm = some (newO l nm d) := by
  have := find_of (rise_put h nm d) (o := newO l nm d) (by unfold putL; simp)
  exact this
theorem find_same {l l' : List Obj} (h : Rise l) (h' : Rise l') {x : List UInt8} (he : ∀ o, o.name = x → (o ∈ l ↔ o ∈ l')) : findO l x = findO l' x := by
  cases hf : findO l x with
  | none =>
    refine (find_none fun o ho hx => ?_).symm
    have h1 := (he o hx).2 ho
    have := find_of h h1
    rw [hx, hf] at this; cases this
  | some o =>
    obtain ⟨h1, h2⟩ := find_mem hf
    have := find_of h' ((he o h2).1 h1)
    rw [h2] at this
    exact this.symm
theorem mem_both {l : List Obj} {nm : List UInt8} {o : Obj} (hne : o.name ≠ nm) : (o ∈ l ↔ o ∈ below l nm ∨ o ∈ above l nm) := by
  constructor
  · intro ho
    rcases less_tri o.name nm with h | h | h
    · exact .inl (below_mem.2 ⟨ho, h⟩)
    · exact absurd h hne
    · exact .inr (above_mem.2 ⟨ho, h⟩)
  · rintro (h | h)
    · exact (below_mem.1 h).1
    · exact (above_mem.1 h).1
theorem find_put_other {l : List Obj} (h : Rise l) (nm d : List UInt8) {x : List UInt8} (hx : x ≠ nm) : findO (putL l nm d) x = findO l x := by
  refine find_same (rise_put h nm d) h fun o ho => ?_
  have hne : o.name ≠ nm := by rw [ho]; exact hx
  rw [mem_both (l := l) hne]
  unfold putL
  rw [List.mem_append, List.mem_cons]
  constructor
  · rintro (h | h | h)
    · exact .inl h
    · subst h; exact absurd rfl hne
    · exact .inr h
  · rintro (h | h)
    · exact .inl h
    · exact .inr (.inr h)
theorem find_drop_other {l : List Obj} (h : Rise l) (nm : List UInt8) {x : List UInt8} (hx : x ≠ nm) : findO (dropL l nm) x = findO l x := by
  refine find_same (rise_drop h nm) h fun o ho => ?_
  have hne : o.name ≠ nm := by rw [ho]; exact hx
  rw [mem_both (l := l) hne]
  unfold dropL
  rw [List.mem_append]
theorem find_drop_same (l : List Obj) (nm : List UInt8) : findO (dropL l nm) nm = none := by
  refine find_none fun o ho he => ?_
  unfold dropL at ho
  rcases List.mem_append.1 ho with h | h
  · have := (below_mem.1 h).2; rw [he, less_irrefl] at this; cases this
  · have := (above_mem.1 h).2; rw [he, less_irrefl] at this; cases this
theorem put_len (l : List Obj) (nm d : List UInt8) : (putL l nm d).length ≤ l.length * 2 + 1 := by
  unfold putL below above
  have h1 := List.length_filter_le (fun o : Obj => less o.name nm) l
  have h2 := List.length_filter_le (fun o : Obj => less nm o.name) l
  simp only [List.length_append, List.length_cons]; omega
theorem put_len1 {l : List Obj} (nm d : List UInt8) : (putL l nm d).length ≤ l.length + 1 := by
  unfold putL below above
  simp only [List.length_append, List.length_cons]
  have : ∀ l : List Obj, (l.filter (fun o => less o.name nm)).length + (l.filter (fun o => less nm o.name)).length ≤ l.length := by
    intro l
    induction l with
    | nil => simp
    | cons o l ih =>
      simp only [List.filter_cons]
      cases h1 : less o.name nm
      · cases h2 : less nm o.name
        · simp; omega
        · simp; omega
      · rw [less_asymm h1]; simp; omega
  have := this l
  omega
theorem drop_len (l : List Obj) (nm : List UInt8) : (dropL l nm).length ≤ l.length := by
  have h := put_len1 (l := l) nm []
  unfold putL at h
  unfold dropL
  simp only [List.length_append, List.length_cons] at h ⊢
  omega
theorem put_data {l : List Obj} {nm d : List UInt8} {k : Nat} (h : ∀ o ∈ l, o.data.length ≤ k) (hd : d.length ≤ k) : ∀ o ∈ putL l nm d, o.data.length ≤ k := by
  intro o ho
  unfold putL at ho
  rcases List.mem_append.1 ho with ho | ho
  · exact h o (below_mem.1 ho).1
  · rcases List.mem_cons.1 ho with rfl | ho
    · exact hd
    · exact h o (above_mem.1 ho).1
theorem drop_data {l : List Obj} {nm : List UInt8} {k : Nat} (h : ∀ o ∈ l, o.data.length ≤ k) : ∀ o ∈ dropL l nm, o.data.length ≤ k := by
  intro o ho
  unfold dropL at ho
  rcases List.mem_append.1 ho with ho | ho
  · exact h o (below_mem.1 ho).1
  · exact h o (above_mem.1 ho).1
theorem flip_len (d : List UInt8) : (flip d).length = d.length := by
  unfold flip
  split
  · next h => rw [List.getLast?_eq_none_iff] at h; rw [h]
  · next c h =>
    have : d ≠ [] := by rintro rfl; simp at h
    have := List.length_pos_iff.2 this
    simp; omega
/-- A text that has another as its front isn't less. -/
theorem pre_not_less : ∀ (s p : List UInt8), s.take p.length = p → less s p = false
  | _, [], _ => by unfold less; cases ‹List UInt8› <;> rfl
  | [], b :: p, h => by simp at h
  | a :: s, b :: p, h => by
    simp only [List.length_cons, List.take_succ_cons, List.cons.injEq] at h
    obtain ⟨rfl, h⟩ := h
    have ih := pre_not_less s p h
    unfold less at ih ⊢
    unfold Op.bytesLess
    simp [ih]
theorem nms_first {l : List Obj} {nm d : List UInt8} {f : Int} (hf : f ≠ 3) : ∃ r, nms (putL l nm d) f nm = nm :: r := by
  unfold nms putL
  rw [List.filter_append]
  have h1 : (below l nm).filter (selN f nm) = [] := by
    rw [List.filter_eq_nil_iff]
    intro o ho hs
    have h2 := (below_mem.1 ho).2
    unfold selN hasPre at hs
    simp only [Bool.and_eq_true, decide_eq_true_eq, beq_iff_eq] at hs
    rw [pre_not_less _ _ hs.1.2] at h2; cases h2
  have h2 : selN f nm (newO l nm d) = true := by
    unfold selN hasPre newO
    simp [hf]
  rw [h1, List.filter_cons, if_pos h2]
  exact ⟨_, rfl⟩
end Go.Proofs.YtdnebgilkfafhaaGreatDoor.Pl
