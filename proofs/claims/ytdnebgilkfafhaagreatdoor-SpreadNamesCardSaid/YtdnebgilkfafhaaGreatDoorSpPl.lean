/- Plain Lean: five shelves, three of which are enough (layer 37). No program in sight. Plain Lean: what is asked of five shelves: two may lie, three alike. No program in sight. Plain Lean: five shelves whose power lasts for a few calls; and the chapter's example. No program in sight. -/
import Derived.Test.YtdnebgilkfafhaaGreatDoorShL1
import Derived.Test.YtdnebgilkfafhaaGreatDoorNumPlain
import Derived.Test.YtdnebgilkfafhaaGreatDoorPaPl
namespace Go.Proofs.YtdnebgilkfafhaaGreatDoor.Pl
set_option linter.unusedVariables false
set_option linter.unusedSimpArgs false
abbrev Tx := List UInt8
def noSh : Shelf := ⟨[], []⟩
/-- A store: its shelves (five), and how many calls go through. -/
structure Store where
  sh : List Shelf
  left : Int
/-- How many calls are left behind k calls. -/
def leftAt (n : Int) (k : Nat) : Int := if n < 0 then n else if n ≤ k then 0 else n - k
theorem leftAt_zero (n : Int) : leftAt n 0 = n := by unfold leftAt; split; rfl; split <;> omega
theorem leftAt_succ (n : Int) (k : Nat) : leftAt n (k + 1) = if 0 < leftAt n k then leftAt n k - 1 else leftAt n k := by
  unfold leftAt
  split
  · rw [if_neg (by omega)]
  · split <;> split <;> split <;> omega
theorem leftAt_in {n : Int} (h : I64 n) (k : Nat) : I64 (leftAt n k) := by
  unfold I64 leftAt at *
  split
  · omega
  · split <;> omega
/-- A shelf is called; what is told if the power is gone. -/
def one {α : Type} (op : Shelf → Shelf × α) (g : α) (left : Int) (s : Shelf) : Shelf × α := if left = 0 then (s, g) else op s
/-- All five are called: number i's answer. -/
def ans {α : Type} (op : Nat → Shelf → Shelf × α) (g : α) (st : Store) (i : Nat) : Shelf × α := one (op i) g (leftAt st.left i) (st.sh.getD i noSh)
def five {α : Type} (op : Nat → Shelf → Shelf × α) (g : α) (st : Store) : Store × List α :=
  (⟨(List.range 5).map fun i => (ans op g st i).1, leftAt st.left 5⟩, (List.range 5).map fun i => (ans op g st i).2)
/-- The calls of a shelf. -/
def getS (nm : Tx) (s : Shelf) : Shelf × (Tx × Nat) := (⟨s.objs, (getA s.objs s.fates nm).1⟩, (getA s.objs s.fates nm).2)
def putS (nm d : Tx) (s : Shelf) : Shelf × Nat := (⟨(putA s.objs s.fates nm d).1, (putA s.objs s.fates nm d).2.1⟩, (putA s.objs s.fates nm d).2.2)
def dropS (nm : Tx) (s : Shelf) : Shelf × Nat := (⟨(dropA s.objs s.fates nm).1, (dropA s.objs s.fates nm).2.1⟩, (dropA s.objs s.fates nm).2.2)
def namesS (p : Tx) (s : Shelf) : Shelf × (List Tx × Nat) := (⟨s.objs, (namesA s.objs s.fates p).1⟩, (namesA s.objs s.fates p).2)
/-- What a shelf told of an object. -/
structure Told where
  data : Tx
  err : Nat
  gone : Bool
def toldS (nm : Tx) (s : Shelf) : Shelf × Told := ((getS nm s).1, ⟨(getS nm s).2.1, (getS nm s).2.2, false⟩)
def goneT : Told := ⟨[], 17, true⟩
def getAll (st : Store) (nm : Tx) : Store × List Told := five (fun _ => toldS nm) goneT st
/-- The first error but one. -/
def firstE (but : Nat) (l : List Nat) : Nat := l.foldl (fun f e => if f = 0 ∧ e ≠ but then e else f) 0
def putAll (st : Store) (nm : Tx) (data : Nat → Tx) : Store × Nat := ((five (fun i => putS nm (data i)) 17 st).1, firstE 0 (five (fun i => putS nm (data i)) 17 st).2)
def mayPutE (nm d : Tx) : Nat := if okName nm = false then 7 else if 65536 < d.length then 6 else 0
def hibs : Tx := [104, 105, 98, 115]
/-- A part of bytes under a name. -/
def partRow (nm : Tx) (size p : Nat) (sum d : Tx) : Tx := rowB [hibs, nm, Lib.itoa size, Lib.itoa p, sum, sumB [d], d]
def partOf (nm d : Tx) (i : Nat) : Tx := partRow nm d.length (i + 1) (sumB [d]) (partP d (UInt8.ofNat (i + 1)))
def writeP (st : Store) (nm d : Tx) : Store × Nat := if mayPutE nm d ≠ 0 then (st, mayPutE nm d) else putAll st nm (partOf nm d)
def postP (st : Store) (nm d : Tx) : Store × Nat := if mayPutE nm d ≠ 0 then (st, mayPutE nm d) else putAll st nm fun _ => d
/-- Why nothing is told. -/
def whyF : List Told → Nat → Nat
  | [], n => if 3 ≤ n then 9 else 18
  | t :: r, n => if t.gone then 17 else whyF r (if t.err = 9 then n + 1 else n)
def whyE (l : List Told) : Nat := whyF l 0
/-- What fits: its whole, and the part. -/
structure Fit5 where
  size : Nat
  sum : Tx
  i : Nat
  data : Tx
def fitL (nm : Tx) (i : Nat) (l : List Tx) : Option Fit5 :=
  if l.length ≠ 7 ∨ l.getD 0 [] ≠ hibs ∨ l.getD 1 [] ≠ nm then none
  else match intQ (l.getD 2 []) with
    | none => none
    | some z => if z < 0 ∨ 65536 < z ∨ l.getD 3 [] ≠ Lib.itoa ((i + 1 : Nat) : Int) then none
      else if (l.getD 4 []).length ≠ 32 ∨ l.getD 5 [] ≠ sumB [l.getD 6 []] ∨ (l.getD 6 []).length ≠ rowsN z.toNat then none
      else some ⟨z.toNat, l.getD 4 [], i + 1, l.getD 6 []⟩
def fitP (nm : Tx) (i : Nat) (b : Tx) : Option Fit5 := if (texts b).2 ≠ 0 then none else fitL nm i (texts b).1
def fitT (nm : Tx) (i : Nat) (t : Told) : Option Fit5 := if t.err = 0 then fitP nm i t.data else none
/-- What three that fit tell. -/
def try3 (x y z : Fit5) : Option Tx :=
  if x.size = y.size ∧ x.sum = y.sum ∧ x.size = z.size ∧ x.sum = z.sum then
    (if sumB [joinP (UInt8.ofNat x.i, UInt8.ofNat y.i, UInt8.ofNat z.i) x.data y.data z.data x.size] = x.sum then some (joinP (UInt8.ofNat x.i, UInt8.ofNat y.i, UInt8.ofNat z.i) x.data y.data z.data x.size) else none)
  else none
def twoL : List Fit5 → List (Fit5 × Fit5)
  | [] => []
  | y :: r => (r.map fun z => (y, z)) ++ twoL r
def threeL : List Fit5 → List (Fit5 × Fit5 × Fit5)
  | [] => []
  | x :: r => ((twoL r).map fun p => (x, p)) ++ threeL r
def joinedP (l : List Fit5) : Option Tx := (threeL l).findSome? fun p => try3 p.1 p.2.1 p.2.2
def fitsF (nm : Tx) : List Told → Nat → List Fit5
  | [], _ => []
  | t :: r, i => (fitT nm i t).toList ++ fitsF nm r (i + 1)
def fitsP (nm : Tx) (l : List Told) : List Fit5 := fitsF nm l 0
def readP (st : Store) (nm : Tx) : Store × Tx × Nat :=
  if okName nm = false then (st, [], 7) else
  match joinedP (fitsP nm (getAll st nm).2) with
  | some d => ((getAll st nm).1, d, 0)
  | none => ((getAll st nm).1, [], whyE (getAll st nm).2)
def alikeN (t : Told) (l : List Told) : Nat := (l.filter fun u => decide (u.err = 0) && (u.data == t.data)).length
def voteP (st : Store) (nm : Tx) : Store × Tx × Nat :=
  if okName nm = false then (st, [], 7) else
  match (getAll st nm).2.find? fun t => decide (t.err = 0) && decide (3 ≤ alikeN t (getAll st nm).2) with
  | some t => ((getAll st nm).1, t.data, 0)
  | none => ((getAll st nm).1, [], whyE (getAll st nm).2)
def dropP (st : Store) (nm : Tx) : Store × Nat :=
  if okName nm = false then (st, 7) else ((five (fun _ => dropS nm) 17 st).1, firstE 9 (five (fun _ => dropS nm) 17 st).2)
/-- What a shelf told of names. -/
structure ToldN where
  names : List Tx
  err : Nat
  gone : Bool
def toldN (p : Tx) (s : Shelf) : Shelf × ToldN := ((namesS p s).1, ⟨(namesS p s).2.1, (namesS p s).2.2, false⟩)
def namesAll (st : Store) (p : Tx) : Store × List ToldN := five (fun _ => toldN p) ⟨[], 17, true⟩ st
end Go.Proofs.YtdnebgilkfafhaaGreatDoor.Pl
namespace Go.Proofs.YtdnebgilkfafhaaGreatDoor.Pl
set_option linter.unusedVariables false
set_option linter.unusedSimpArgs false
/-- A store all of whose shelves are honest, and whose power lasts. -/
structure Hon (st : Store) : Prop where
  len : st.sh.length = 5
  left : st.left = -1
  all : ∀ s ∈ st.sh, s.fates = [] ∧ chk s.objs = 0
theorem leftAt_neg (k : Nat) : leftAt (-1) k = -1 := by unfold leftAt; rw [if_pos (by omega)]
theorem put_hon {s : Shelf} {nm d : Tx} (h : s.fates = [] ∧ chk s.objs = 0) (hn : okName nm = true) (hd : d.length ≤ 65536) : putS nm d s = (⟨putL s.objs nm d, []⟩, 0) := by
  unfold putS putA
  rw [askE_of h.2 hn, h.1]
  simp [putR, show ¬ 65536 < d.length by omega]
theorem get_hon {s : Shelf} {nm : Tx} (h : s.fates = [] ∧ chk s.objs = 0) (hn : okName nm = true) : getS nm s = (s, ((findO s.objs nm).elim [] (·.data), if (findO s.objs nm).isSome then 0 else 9)) := by
  obtain ⟨l, F⟩ := s
  obtain ⟨rfl, h2⟩ := h
  unfold getS getA
  rw [askE_of h2 hn]
  cases hf : findO l nm <;> simp [getR, hf]
theorem five_hon {α : Type} (op : Nat → Shelf → Shelf × α) (g : α) {st : Store} (h : Hon st) : five op g st = (⟨(List.range 5).map fun i => (op i (st.sh.getD i noSh)).1, -1⟩, (List.range 5).map fun i => (op i (st.sh.getD i noSh)).2) := by
  unfold five ans one
  simp only [h.left, leftAt_neg]
  simp
theorem Hon.get {st : Store} (h : Hon st) {i : Nat} (hi : i < 5) : (st.sh.getD i noSh).fates = [] ∧ chk (st.sh.getD i noSh).objs = 0 := by
  have hl := h.len
  rw [List.getD_eq_getElem?_getD, List.getElem?_eq_getElem (by omega)]
  exact h.all _ (List.getElem_mem _)
theorem firstE_zero (but : Nat) : ∀ l : List Nat, (∀ e ∈ l, e = 0 ∨ e = but) → firstE but l = 0 := by
  intro l
  unfold firstE
  suffices h : ∀ l : List Nat, (∀ e ∈ l, e = 0 ∨ e = but) → ∀ f, f = 0 → l.foldl (fun f e => if f = 0 ∧ e ≠ but then e else f) f = 0 from fun hl => h l hl 0 rfl
  intro l
  induction l with
  | nil => intro _ f hf; exact hf
  | cons e r ih =>
    intro hl f hf
    rw [List.foldl_cons]
    refine ih (fun e he => hl e (List.mem_cons_of_mem _ he)) _ ?_
    split
    · next h =>
      rcases hl e List.mem_cons_self with h1 | h1
      · exact h1
      · exact absurd h1 h.2
    · exact hf
/-- All shelves are put something. -/
theorem putAll_hon {st : Store} (h : Hon st) {nm : Tx} {data : Nat → Tx} (hn : okName nm = true) (hd : ∀ i, i < 5 → (data i).length ≤ 65536) :
    putAll st nm data = (⟨(List.range 5).map fun i => ⟨putL (st.sh.getD i noSh).objs nm (data i), []⟩, -1⟩, 0) := by
  unfold putAll
  rw [five_hon _ _ h]
  have e : ∀ i ∈ List.range 5, putS nm (data i) (st.sh.getD i noSh) = (⟨putL (st.sh.getD i noSh).objs nm (data i), []⟩, 0) := fun i hi => put_hon (h.get (List.mem_range.1 hi)) hn (hd i (List.mem_range.1 hi))
  have e1 : ((List.range 5).map fun i => (putS nm (data i) (st.sh.getD i noSh)).1) = (List.range 5).map fun i => ⟨putL (st.sh.getD i noSh).objs nm (data i), []⟩ := List.map_congr_left fun i hi => by rw [e i hi]
  have e2 : firstE 0 ((List.range 5).map fun i => (putS nm (data i) (st.sh.getD i noSh)).2) = 0 := firstE_zero 0 _ fun x hx => by
    obtain ⟨i, hi, rfl⟩ := List.mem_map.1 hx
    rw [e i hi]
    exact .inl rfl
  show ((⟨(List.range 5).map fun i => (putS nm (data i) (st.sh.getD i noSh)).1, -1⟩ : Store), firstE 0 ((List.range 5).map fun i => (putS nm (data i) (st.sh.getD i noSh)).2)) = _
  rw [e1, e2]
theorem putAll_is {st : Store} (h : Hon st) {nm : Tx} {data : Nat → Tx} (hn : okName nm = true) (hd : ∀ i, i < 5 → (data i).length ≤ 65536) : Hon (putAll st nm data).1 := by
  rw [putAll_hon h hn hd]
  refine ⟨by simp, rfl, fun s hs => ?_⟩
  obtain ⟨i, hi, rfl⟩ := List.mem_map.1 hs
  exact ⟨rfl, chk_put (h.get (List.mem_range.1 hi)).2 hn (hd i (List.mem_range.1 hi))⟩
/-- Each shelf has an object of a name, and it is that. -/
def Has (st : Store) (nm : Tx) (data : Nat → Tx) : Prop := ∀ i, i < 5 → ∃ o, findO (st.sh.getD i noSh).objs nm = some o ∧ o.data = data i
theorem getD_range {α : Type} (f : Nat → α) (d : α) {i : Nat} (hi : i < 5) : ((List.range 5).map f).getD i d = f i := by
  rw [List.getD_eq_getElem?_getD, List.getElem?_map, List.getElem?_range hi]; rfl
theorem putAll_has {st : Store} (h : Hon st) {nm : Tx} {data : Nat → Tx} (hn : okName nm = true) (hd : ∀ i, i < 5 → (data i).length ≤ 65536) : Has (putAll st nm data).1 nm data := by
  rw [putAll_hon h hn hd]
  intro i hi
  simp only
  rw [getD_range _ _ hi]
  exact ⟨_, find_put_same ((chk_iff _).1 (h.get hi).2).1 nm (data i), rfl⟩
/-- What stands at other names stays. -/
theorem putAll_other {st : Store} (h : Hon st) {nm x : Tx} {data : Nat → Tx} (hn : okName nm = true) (hd : ∀ i, i < 5 → (data i).length ≤ 65536) (hx : x ≠ nm) {i : Nat} (hi : i < 5) :
    findO ((putAll st nm data).1.sh.getD i noSh).objs x = findO (st.sh.getD i noSh).objs x := by
  rw [putAll_hon h hn hd]
  simp only
  rw [getD_range _ _ hi]
  exact find_put_other ((chk_iff _).1 (h.get hi).2).1 nm (data i) hx
/-- A store two of whose shelves are others. -/
def bend (st : Store) (a b : Nat) (x y : Shelf) : Store := ⟨(st.sh.set a x).set b y, st.left⟩
theorem bend_get (st : Store) {a b : Nat} (x y : Shelf) {i : Nat} (ha : i ≠ a) (hb : i ≠ b) : (bend st a b x y).sh.getD i noSh = st.sh.getD i noSh := by
  unfold bend
  simp only [List.getD_eq_getElem?_getD]
  rw [List.getElem?_set_ne (Ne.symm hb), List.getElem?_set_ne (Ne.symm ha)]
/-- What the shelves that were not bent tell. -/
theorem told_bend {st : Store} (h : Hon st) {nm : Tx} {data : Nat → Tx} (hn : okName nm = true) (hh : Has st nm data) (a b : Nat) (x y : Shelf) {i : Nat} (hi : i < 5) (ha : i ≠ a) (hb : i ≠ b) :
    ((getAll (bend st a b x y) nm).2)[i]? = some ⟨data i, 0, false⟩ := by
  unfold getAll five
  simp only
  rw [List.getElem?_map, List.getElem?_range hi]
  simp only [Option.map_some]
  unfold ans one
  rw [bend_get st x y ha hb, show (bend st a b x y).left = -1 from h.left, leftAt_neg, if_neg (by omega)]
  show some (⟨(getS nm (st.sh.getD i noSh)).2.1, (getS nm (st.sh.getD i noSh)).2.2, false⟩ : Told) = _
  rw [get_hon (h.get hi) hn]
  obtain ⟨o, ho, hd⟩ := hh i hi
  rw [ho]
  simp [hd]
theorem told_len (st : Store) (nm : Tx) : (getAll st nm).2.length = 5 := by simp [getAll, five]
/-- Three of five that are neither one nor the other of two. -/
theorem three_of (a b : Nat) : ∃ i j k, i < j ∧ j < k ∧ k < 5 ∧ (∀ z, z = i ∨ z = j ∨ z = k → z ≠ a ∧ z ≠ b) := by
  have h : ∀ a' b' : Fin 6, ∃ i j k : Fin 5, i < j ∧ j < k ∧ i.val ≠ a'.val ∧ i.val ≠ b'.val ∧ j.val ≠ a'.val ∧ j.val ≠ b'.val ∧ k.val ≠ a'.val ∧ k.val ≠ b'.val := by decide
  have g : ∀ z : Nat, z ≤ 4 → (z = min a 5 ↔ z = a) := fun z hz => by omega
  have g' : ∀ z : Nat, z ≤ 4 → (z = min b 5 ↔ z = b) := fun z hz => by omega
  obtain ⟨i, j, k, h1, h2, h3, h4, h5, h6, h7, h8⟩ := h ⟨min a 5, by omega⟩ ⟨min b 5, by omega⟩
  refine ⟨i, j, k, h1, h2, k.isLt, ?_⟩
  have hi := i.isLt; have hj := j.isLt; have hk := k.isLt
  simp only at h3 h4 h5 h6 h7 h8
  rintro z (rfl | rfl | rfl) <;> constructor <;> omega
theorem sub1 {α : Type} (l : List α) (k : Nat) (h : k < l.length) : [l[k]].Sublist l := List.singleton_sublist.2 (List.getElem_mem h)
theorem sub2 {α : Type} (l : List α) (j k : Nat) (h1 : j < k) (h : k < l.length) : [l[j], l[k]].Sublist l := by
  have e := List.take_append_drop (j + 1) l
  have a := sub1 (l.take (j + 1)) j (by rw [List.length_take]; omega)
  have b := sub1 (l.drop (j + 1)) (k - (j + 1)) (by rw [List.length_drop]; omega)
  rw [List.getElem_take] at a
  rw [List.getElem_drop] at b
  have c := a.append b
  rw [e] at c
  simpa [show j + 1 + (k - (j + 1)) = k by omega] using c
theorem sub3 {α : Type} (l : List α) (i j k : Nat) (h0 : i < j) (h1 : j < k) (h : k < l.length) : [l[i], l[j], l[k]].Sublist l := by
  have e := List.take_append_drop (i + 1) l
  have a := sub1 (l.take (i + 1)) i (by rw [List.length_take]; omega)
  have b := sub2 (l.drop (i + 1)) (j - (i + 1)) (k - (i + 1)) (by omega) (by rw [List.length_drop]; omega)
  rw [List.getElem_take] at a
  rw [List.getElem_drop, List.getElem_drop] at b
  have c := a.append b
  rw [e] at c
  simpa [show i + 1 + (j - (i + 1)) = j by omega, show i + 1 + (k - (i + 1)) = k by omega] using c
theorem filter3 {α : Type} (p : α → Bool) (l : List α) (i j k : Nat) (h0 : i < j) (h1 : j < k) (h : k < l.length) (pi : p (l[i]'(by omega)) = true) (pj : p (l[j]'(by omega)) = true) (pk : p l[k] = true) : 3 ≤ (l.filter p).length := by
  have a := (sub3 l i j k h0 h1 h).filter p
  have e : [l[i]'(by omega), l[j]'(by omega), l[k]].filter p = [l[i]'(by omega), l[j]'(by omega), l[k]] := by simp [pi, pj, pk]
  rw [e] at a
  exact a.length_le
theorem filter_two {α : Type} (p : α → Bool) : ∀ l : List α, (l.filter p).length + (l.filter fun x => !p x).length = l.length
  | [] => rfl
  | a :: l => by
    have := filter_two p l
    cases h : p a <;> simp [h] <;> omega
/-- THREE ALIKE. -/
theorem vote_law {st : Store} (h : Hon st) {nm d : Tx} (hn : okName nm = true) (hh : Has st nm fun _ => d) (a b : Nat) (x y : Shelf) : (voteP (bend st a b x y) nm).2 = (d, 0) := by
  obtain ⟨i, j, k, h0, h1, hk, hz⟩ := three_of a b
  have hl := told_len (bend st a b x y) nm
  have ti := told_bend h hn hh a b x y (i := i) (by omega) (hz i (.inl rfl)).1 (hz i (.inl rfl)).2
  have tj := told_bend h hn hh a b x y (i := j) (by omega) (hz j (.inr (.inl rfl))).1 (hz j (.inr (.inl rfl))).2
  have tk := told_bend h hn hh a b x y (i := k) (by omega) (hz k (.inr (.inr rfl))).1 (hz k (.inr (.inr rfl))).2
  unfold voteP
  rw [if_neg (by rw [hn]; simp)]
  generalize hL : (getAll (bend st a b x y) nm).2 = L at *
  rw [List.getElem?_eq_getElem (by omega)] at ti tj tk
  injection ti with ti
  injection tj with tj
  injection tk with tk
  have hgood : ∀ t ∈ L, t.err = 0 → 3 ≤ alikeN t L → t.data = d := by
    intro t _ _ h3
    by_cases hd : t.data = d
    · exact hd
    · exfalso
      unfold alikeN at h3
      have hne : ∀ z : Nat, (hz : z < L.length) → L[z] = ⟨d, 0, false⟩ → (!(decide (L[z].err = 0) && (L[z].data == t.data))) = true := fun z hz e => by
        rw [e]
        simp [Ne.symm hd]
      have h4 := filter3 (fun u => !(decide (u.err = 0) && (u.data == t.data))) L i j k h0 h1 (by omega) (hne i (by omega) ti) (hne j (by omega) tj) (hne k (by omega) tk)
      have h5 := filter_two (fun u => decide (u.err = 0) && (u.data == t.data)) L
      omega
  have h3 : 3 ≤ alikeN ⟨d, 0, false⟩ L := by
    unfold alikeN
    exact filter3 _ L i j k h0 h1 (by omega) (by rw [ti]; simp) (by rw [tj]; simp) (by rw [tk]; simp)
  cases hf : L.find? fun t => decide (t.err = 0) && decide (3 ≤ alikeN t L) with
  | none =>
    rw [List.find?_eq_none] at hf
    have := hf L[i] (List.getElem_mem _)
    rw [ti] at this
    simp [h3] at this
  | some t =>
    have h6 := List.find?_some hf
    simp only [Bool.and_eq_true, decide_eq_true_eq] at h6
    show (t.data, 0) = (d, 0)
    rw [hgood t (List.mem_of_find?_eq_some hf) h6.1 h6.2]
/-- What fits of a list of what was told. -/
theorem fitsF_append (nm : Tx) : ∀ (l k : List Told) (n : Nat), fitsF nm (l ++ k) n = fitsF nm l n ++ fitsF nm k (n + l.length)
  | [], k, n => by simp [fitsF]
  | t :: r, k, n => by
    rw [List.cons_append, fitsF, fitsF, fitsF_append nm r k (n + 1), List.append_assoc, List.length_cons, show n + 1 + r.length = n + (r.length + 1) by omega]
theorem fits1 (nm : Tx) (l : List Told) (n k : Nat) (h : k < l.length) {x : Fit5} (hx : fitT nm (n + k) l[k] = some x) : [x].Sublist (fitsF nm l n) := by
  rw [← List.take_append_drop k l, fitsF_append, List.length_take, Nat.min_eq_left (by omega), List.drop_eq_getElem_cons h, fitsF, hx]
  exact (List.singleton_sublist.2 (by simp))
theorem fits2 (nm : Tx) (l : List Told) (n j k : Nat) (h1 : j < k) (h : k < l.length) {x y : Fit5} (hx : fitT nm (n + j) (l[j]'(by omega)) = some x) (hy : fitT nm (n + k) l[k] = some y) : [x, y].Sublist (fitsF nm l n) := by
  rw [← List.take_append_drop (j + 1) l, fitsF_append, List.length_take, Nat.min_eq_left (by omega)]
  have a := fits1 nm (l.take (j + 1)) n j (by rw [List.length_take]; omega) (x := x) (by rw [List.getElem_take]; exact hx)
  have b := fits1 nm (l.drop (j + 1)) (n + (j + 1)) (k - (j + 1)) (by rw [List.length_drop]; omega) (x := y) (by simp only [List.getElem_drop, show n + (j + 1) + (k - (j + 1)) = n + k by omega, show j + 1 + (k - (j + 1)) = k by omega]; exact hy)
  exact a.append b
theorem fits3 (nm : Tx) (l : List Told) (n i j k : Nat) (h0 : i < j) (h1 : j < k) (h : k < l.length) {x y z : Fit5} (hx : fitT nm (n + i) (l[i]'(by omega)) = some x) (hy : fitT nm (n + j) (l[j]'(by omega)) = some y) (hz : fitT nm (n + k) l[k] = some z) : [x, y, z].Sublist (fitsF nm l n) := by
  rw [← List.take_append_drop (i + 1) l, fitsF_append, List.length_take, Nat.min_eq_left (by omega)]
  have a := fits1 nm (l.take (i + 1)) n i (by rw [List.length_take]; omega) (x := x) (by rw [List.getElem_take]; exact hx)
  have b := fits2 nm (l.drop (i + 1)) (n + (i + 1)) (j - (i + 1)) (k - (i + 1)) (by omega) (by rw [List.length_drop]; omega) (x := y) (y := z) (by simp only [List.getElem_drop, show n + (i + 1) + (j - (i + 1)) = n + j by omega, show i + 1 + (j - (i + 1)) = j by omega]; exact hy) (by simp only [List.getElem_drop, show n + (i + 1) + (k - (i + 1)) = n + k by omega, show i + 1 + (k - (i + 1)) = k by omega]; exact hz)
  exact a.append b
theorem fitL_is {nm : Tx} {i : Nat} {l : List Tx} {x : Fit5} (h : fitL nm i l = some x) : x.i = i + 1 ∧ x.size ≤ 65536 ∧ x.sum.length = 32 ∧ x.data.length = rowsN x.size := by
  unfold fitL at h
  split at h
  · cases h
  split at h
  · cases h
  split at h
  · cases h
  next z _ hz =>
  split at h
  · cases h
  next h4 =>
  injection h with h
  subst h
  exact ⟨rfl, by show z.toNat ≤ 65536; omega, by show (l.getD 4 []).length = 32; omega, by show (l.getD 6 []).length = rowsN z.toNat; omega⟩
theorem fitT_is {nm : Tx} {i : Nat} {t : Told} {x : Fit5} (h : fitT nm i t = some x) : x.i = i + 1 ∧ x.size ≤ 65536 ∧ x.sum.length = 32 ∧ x.data.length = rowsN x.size := by
  unfold fitT at h
  split at h
  · unfold fitP at h
    split at h
    · cases h
    · exact fitL_is h
  · cases h
theorem fitsF_mem (nm : Tx) : ∀ (l : List Told) (n : Nat) (x : Fit5), x ∈ fitsF nm l n → ∃ k, ∃ h : k < l.length, fitT nm (n + k) l[k] = some x
  | [], _, x, h => by cases h
  | t :: r, n, x, h => by
    rw [fitsF, List.mem_append] at h
    rcases h with h | h
    · exact ⟨0, by simp, by simpa using h⟩
    · obtain ⟨k, hk, e⟩ := fitsF_mem nm r (n + 1) x h
      exact ⟨k + 1, by simp; omega, by rw [show n + (k + 1) = n + 1 + k by omega]; simpa using e⟩
theorem fitsF_rise (nm : Tx) : ∀ (l : List Told) (n : Nat), (fitsF nm l n).Pairwise fun x y => x.i < y.i
  | [], _ => List.Pairwise.nil
  | t :: r, n => by
    rw [fitsF, List.pairwise_append]
    refine ⟨?_, fitsF_rise nm r (n + 1), ?_⟩
    · cases fitT nm n t <;> simp
    · intro x hx y hy
      have h1 := (fitT_is (show fitT nm n t = some x by simpa using hx)).1
      obtain ⟨k, hk, e⟩ := fitsF_mem nm r (n + 1) y hy
      have h2 := (fitT_is e).1
      omega
theorem twoL_of : ∀ {l : List Fit5} {y z : Fit5}, [y, z].Sublist l → (y, z) ∈ twoL l
  | _ :: r, y, z, h => by
    rw [twoL, List.mem_append]
    cases h with
    | cons _ h => exact .inr (twoL_of h)
    | cons_cons _ h => exact .inl (List.mem_map.2 ⟨z, List.singleton_sublist.1 h, rfl⟩)
theorem threeL_of : ∀ {l : List Fit5} {x y z : Fit5}, [x, y, z].Sublist l → (x, y, z) ∈ threeL l
  | _ :: r, x, y, z, h => by
    rw [threeL, List.mem_append]
    cases h with
    | cons _ h => exact .inr (threeL_of h)
    | cons_cons _ h => exact .inl (List.mem_map.2 ⟨(y, z), twoL_of h, rfl⟩)
theorem twoL_sub : ∀ {l : List Fit5} {p : Fit5 × Fit5}, p ∈ twoL l → [p.1, p.2].Sublist l
  | x :: r, p, h => by
    rw [twoL, List.mem_append] at h
    rcases h with h | h
    · obtain ⟨z, hz, rfl⟩ := List.mem_map.1 h
      exact (List.singleton_sublist.2 hz).cons_cons _
    · exact (twoL_sub h).cons _
theorem threeL_sub : ∀ {l : List Fit5} {p : Fit5 × Fit5 × Fit5}, p ∈ threeL l → [p.1, p.2.1, p.2.2].Sublist l
  | x :: r, p, h => by
    rw [threeL, List.mem_append] at h
    rcases h with h | h
    · obtain ⟨z, hz, rfl⟩ := List.mem_map.1 h
      exact (twoL_sub hz).cons_cons _
    · exact (threeL_sub h).cons _
theorem sumB_len (l : List Tx) : (sumB l).length = 32 := by unfold sumB; rw [digest_len]
theorem i64_nat {n : Nat} (h : n ≤ 1000000) : I64 (n : Int) := ⟨by omega, by omega⟩
theorem rowsN_le {n : Nat} : rowsN n ≤ n + 1 := by unfold rowsN; omega
theorem okName_len {nm : Tx} (h : okName nm = true) : 1 ≤ nm.length ∧ nm.length ≤ 100 := by unfold okName at h; exact of_decide_eq_true h
theorem part_texts {nm d : Tx} (hn : nm.length ≤ 100) (hd : d.length ≤ 65536) (i : Nat) (hi : i < 5) : texts (partOf nm d i) = ([hibs, nm, Lib.itoa (d.length : Int), Lib.itoa ((i + 1 : Nat) : Int), sumB [d], sumB [partP d (UInt8.ofNat (i + 1))], partP d (UInt8.ofNat (i + 1))], 0) := by
  unfold partOf partRow
  refine texts_rowB _ fun s hs => ?_
  simp only [List.mem_cons, List.not_mem_nil, or_false] at hs
  have h1 := (itoa_len (v := (d.length : Int)) (i64_nat (by omega))).2
  have h2 := (itoa_len (v := ((i + 1 : Nat) : Int)) (i64_nat (by omega))).2
  have h3 := partP_len d (UInt8.ofNat (i + 1))
  have h4 := rowsN_le (n := d.length)
  rcases hs with rfl | rfl | rfl | rfl | rfl | rfl | rfl
  · decide
  · omega
  · omega
  · omega
  · rw [sumB_len]; omega
  · rw [sumB_len]; omega
  · omega
/-- A part that was written fits. -/
theorem fit_part {nm d : Tx} (hn : nm.length ≤ 100) (hd : d.length ≤ 65536) (i : Nat) (hi : i < 5) : fitP nm i (partOf nm d i) = some ⟨d.length, sumB [d], i + 1, partP d (UInt8.ofNat (i + 1))⟩ := by
  unfold fitP
  rw [part_texts hn hd i hi]
  rw [if_neg (by simp)]
  unfold fitL
  rw [if_neg (by simp)]
  simp only [List.getD_cons_succ, List.getD_cons_zero]
  rw [intQ_itoa (i64_nat (by omega))]
  simp only
  rw [if_neg (by simp; omega), if_neg (by simp [sumB_len, partP_len])]
  simp
theorem lenB_one {n : Nat} (h : n ≤ 65536) : (lenB n).length ≤ 3 := by
  rcases Nat.lt_or_ge n 128 with h1 | h1
  · rw [lenB_lt n h1]; simp
  · rw [lenB_ge n h1]
    rcases Nat.lt_or_ge (n / 128) 128 with h2 | h2
    · rw [lenB_lt _ h2]; simp
    · rw [lenB_ge _ h2, lenB_lt _ (by omega)]; simp
theorem part_len {nm d : Tx} (hn : nm.length ≤ 100) (hd : d.length ≤ 65536) (i : Nat) (hi : i < 5) : (partOf nm d i).length ≤ 65536 := by
  unfold partOf partRow
  simp only [rowB, List.length_append, List.length_nil]
  have h1 := (itoa_len (v := (d.length : Int)) (i64_nat (by omega))).2
  have h2 := (itoa_len (v := ((i + 1 : Nat) : Int)) (i64_nat (by omega))).2
  have h3 := partP_len d (UInt8.ofNat (i + 1))
  have h4 : rowsN d.length ≤ 21846 := by unfold rowsN; omega
  have h5 : hibs.length = 4 := rfl
  have g := fun n h => lenB_one (n := n) h
  have g1 := g hibs.length (by omega)
  have g2 := g nm.length (by omega)
  have g3 := g (Lib.itoa (d.length : Int)).length (by omega)
  have g4 := g (Lib.itoa ((i + 1 : Nat) : Int)).length (by omega)
  have g5 := g (sumB [d]).length (by rw [sumB_len]; omega)
  have g6 := g (sumB [partP d (UInt8.ofNat (i + 1))]).length (by rw [sumB_len]; omega)
  have g7 := g (partP d (UInt8.ofNat (i + 1))).length (by omega)
  have e1 := sumB_len [d]
  have e2 := sumB_len [partP d (UInt8.ofNat (i + 1))]
  omega
theorem ways_rise : ∀ i j k : Fin 5, i < j → j < k → ((UInt8.ofNat (i.val + 1), UInt8.ofNat (j.val + 1), UInt8.ofNat (k.val + 1)) : UInt8 × UInt8 × UInt8) ∈ ways := by decide
/-- Three parts that were written tell what was written. -/
theorem try_parts (d : Tx) (i j k : Nat) (h0 : i < j) (h1 : j < k) (h : k < 5) : try3 ⟨d.length, sumB [d], i + 1, partP d (UInt8.ofNat (i + 1))⟩ ⟨d.length, sumB [d], j + 1, partP d (UInt8.ofNat (j + 1))⟩ ⟨d.length, sumB [d], k + 1, partP d (UInt8.ofNat (k + 1))⟩ = some d := by
  have hw := ways_rise ⟨i, by omega⟩ ⟨j, by omega⟩ ⟨k, by omega⟩ h0 h1
  have hj := join_cut d hw
  simp only at hj
  unfold try3
  rw [if_pos ⟨rfl, rfl, rfl, rfl⟩]
  simp only
  rw [hj, if_pos rfl]
/-- TWO MAY LIE: what three honest shelves have is read, or what has the same digest. -/
theorem read_law {st : Store} (h : Hon st) {nm d : Tx} (hn : okName nm = true) (hd : d.length ≤ 65536) (hh : Has st nm (partOf nm d)) (a b : Nat) (x y : Shelf) : ∃ s, (readP (bend st a b x y) nm).2 = (s, 0) ∧ sumB [s] = sumB [d] := by
  obtain ⟨i, j, k, h0, h1, hk, hz⟩ := three_of a b
  have hnl := (okName_len hn).2
  have hl := told_len (bend st a b x y) nm
  have tt : ∀ z, z < 5 → z ≠ a → z ≠ b → ((getAll (bend st a b x y) nm).2)[z]? = some ⟨partOf nm d z, 0, false⟩ := fun z hz ha hb => told_bend h hn hh a b x y hz ha hb
  unfold readP
  rw [if_neg (by rw [hn]; simp)]
  generalize hL : (getAll (bend st a b x y) nm).2 = L at *
  have ft : ∀ z, (hz : z < L.length) → z ≠ a → z ≠ b → fitT nm z L[z] = some ⟨d.length, sumB [d], z + 1, partP d (UInt8.ofNat (z + 1))⟩ := fun z hz ha hb => by
    have h2 := tt z (by omega) ha hb
    rw [List.getElem?_eq_getElem hz] at h2
    injection h2 with h2
    rw [h2]
    unfold fitT
    rw [if_pos rfl]
    exact fit_part hnl hd z (by omega)
  have hsub := fits3 nm L 0 i j k h0 h1 (by omega) (by rw [Nat.zero_add]; exact ft i (by omega) (hz i (.inl rfl)).1 (hz i (.inl rfl)).2) (by rw [Nat.zero_add]; exact ft j (by omega) (hz j (.inr (.inl rfl))).1 (hz j (.inr (.inl rfl))).2) (by rw [Nat.zero_add]; exact ft k (by omega) (hz k (.inr (.inr rfl))).1 (hz k (.inr (.inr rfl))).2)
  have hmem := threeL_of hsub
  have htry := try_parts d i j k h0 h1 hk
  cases hj : joinedP (fitsP nm L) with
  | none =>
    exfalso
    unfold joinedP at hj
    rw [List.findSome?_eq_none_iff] at hj
    have := hj _ hmem
    simp only at this
    rw [htry] at this
    cases this
  | some s =>
    refine ⟨s, rfl, ?_⟩
    unfold joinedP at hj
    obtain ⟨⟨p, q, r⟩, hp, he⟩ := List.exists_of_findSome?_eq_some hj
    have hs := threeL_sub hp
    have hri := (fitsF_rise nm L 0).sublist hs
    simp only [List.pairwise_cons, List.mem_cons, List.not_mem_nil, or_false, forall_eq_or_imp, forall_eq] at hri
    have hme := fun w hw => fitsF_mem nm L 0 w (hs.subset hw)
    obtain ⟨n1, g1, e1⟩ := hme p (by simp)
    obtain ⟨n2, g2, e2⟩ := hme q (by simp)
    obtain ⟨n3, g3, e3⟩ := hme r (by simp)
    rw [Nat.zero_add] at e1 e2 e3
    have i1 := (fitT_is e1).1
    have i2 := (fitT_is e2).1
    have i3 := (fitT_is e3).1
    have honest : ∀ w n, (hg : n < L.length) → fitT nm n L[n] = some w → n ≠ a → n ≠ b → w.sum = sumB [d] := fun w n hg e ha hb => by
      have := ft n hg ha hb
      rw [e] at this
      injection this with this
      rw [this]
    simp only [try3] at he
    split at he
    · next heq =>
      split at he
      · next hsum =>
        injection he with he
        rw [← he, hsum]
        have hone : (n1 ≠ a ∧ n1 ≠ b) ∨ (n2 ≠ a ∧ n2 ≠ b) ∨ (n3 ≠ a ∧ n3 ≠ b) := by omega
        rcases hone with ⟨ha, hb⟩ | ⟨ha, hb⟩ | ⟨ha, hb⟩
        · exact honest p n1 g1 e1 ha hb
        · rw [heq.2.1]; exact honest q n2 g2 e2 ha hb
        · rw [heq.2.2.2]; exact honest r n3 g3 e3 ha hb
      · cases he
    · cases he
end Go.Proofs.YtdnebgilkfafhaaGreatDoor.Pl
namespace Go.Proofs.YtdnebgilkfafhaaGreatDoor.Pl
set_option linter.unusedVariables false
set_option linter.unusedSimpArgs false
theorem leftAt_nat (n k : Nat) : leftAt (n : Int) k = ((n - k : Nat) : Int) := by
  unfold leftAt
  rw [if_neg (by omega)]
  split <;> omega
/-- A shelf that is empty, called with power for n calls, as number i. -/
theorem pow_put {nm d : Tx} (hn : okName nm = true) (hd : d.length ≤ 65536) (n i : Nat) : one (putS nm d) 17 (leftAt (n : Int) i) noSh = if i < n then (⟨[newO [] nm d], []⟩, 0) else (noSh, 17) := by
  unfold one
  rw [leftAt_nat]
  by_cases h : i < n
  · rw [if_pos h, if_neg (by omega), put_hon ⟨rfl, by rfl⟩ hn hd]
    rfl
  · rw [if_neg h, if_pos (by omega)]
theorem pow_first (n : Nat) : firstE 0 ((List.range 5).map fun i => if i < n then 0 else 17) = if 5 ≤ n then 0 else 17 := by
  have h : n = 0 ∨ n = 1 ∨ n = 2 ∨ n = 3 ∨ n = 4 ∨ 5 ≤ n := by omega
  rcases h with rfl | rfl | rfl | rfl | rfl | h
  all_goals try rfl
  rw [if_pos h]
  refine firstE_zero 0 _ fun e he => ?_
  obtain ⟨i, hi, rfl⟩ := List.mem_map.1 he
  rw [if_pos (by have := List.mem_range.1 hi; omega)]
  exact .inl rfl
/-- What a shelf with one object, or none, tells. -/
def powT (nm : Tx) (D : Nat → Tx) (n i : Nat) : Told := if i < n then ⟨D i, 0, false⟩ else ⟨[], 9, false⟩
def powS (nm : Tx) (D : Nat → Tx) (n i : Nat) : Shelf := if i < n then ⟨[newO [] nm (D i)], []⟩ else noSh
theorem chk_one {nm d : Tx} (hn : okName nm = true) (hd : d.length ≤ 65536) : chk [newO [] nm d] = 0 := chk_put (l := []) rfl hn hd
theorem tell_one {nm d : Tx} (hn : okName nm = true) (hd : d.length ≤ 65536) : one (toldS nm) goneT (-1) ⟨[newO [] nm d], []⟩ = (⟨[newO [] nm d], []⟩, ⟨d, 0, false⟩) := by
  unfold one toldS
  rw [if_neg (by omega), get_hon ⟨rfl, chk_one hn hd⟩ hn]
  have h := find_put_same (l := []) ((chk_iff _).1 rfl).1 nm d
  rw [show putL [] nm d = [newO [] nm d] from rfl] at h
  rw [h]
  rfl
theorem tell_none {nm : Tx} (hn : okName nm = true) : one (toldS nm) goneT (-1) noSh = (noSh, ⟨[], 9, false⟩) := by
  unfold one toldS
  rw [if_neg (by omega), get_hon ⟨rfl, rfl⟩ hn]
  rfl
theorem pow_tell {nm : Tx} {D : Nat → Tx} (hn : okName nm = true) (n i : Nat) (hd : (D i).length ≤ 65536) : one (toldS nm) goneT (-1) (powS nm D n i) = (powS nm D n i, powT nm D n i) := by
  unfold powS powT
  split
  · exact tell_one hn hd
  · exact tell_none hn
theorem fitsF_cons_ok {nm d : Tx} (hn : nm.length ≤ 100) (hd : d.length ≤ 65536) (i : Nat) (hi : i < 5) (r : List Told) : fitsF nm (⟨partOf nm d i, 0, false⟩ :: r) i = ⟨d.length, sumB [d], i + 1, partP d (UInt8.ofNat (i + 1))⟩ :: fitsF nm r (i + 1) := by
  rw [fitsF]
  unfold fitT
  rw [if_pos rfl, fit_part hn hd i hi]
  rfl
theorem fitsF_cons_none {nm : Tx} (i e : Nat) (he : e ≠ 0) (g : Bool) (d : Tx) (r : List Told) : fitsF nm (⟨d, e, g⟩ :: r) i = fitsF nm r (i + 1) := by
  rw [fitsF]
  unfold fitT
  rw [if_neg he]
  rfl
theorem joined_three {x y z : Fit5} (r : List Fit5) {d : Tx} (h : try3 x y z = some d) : joinedP (x :: y :: z :: r) = some d := by
  unfold joinedP
  rw [threeL, twoL]
  simp [h]
theorem pow_read {nm d : Tx} (hn : okName nm = true) (hd : d.length ≤ 65536) (n : Nat) :
    joinedP (fitsP nm ((List.range 5).map (powT nm (partOf nm d) n))) = (if 3 ≤ n then some d else none) ∧ (n < 3 → whyE ((List.range 5).map (powT nm (partOf nm d) n)) = 9) := by
  have hl := (okName_len hn).2
  have ht := try_parts d 0 1 2 (by omega) (by omega) (by omega)
  have e5 : ∀ f : Nat → Told, (List.range 5).map f = [f 0, f 1, f 2, f 3, f 4] := fun f => rfl
  rw [e5]
  unfold fitsP powT
  have h : n = 0 ∨ n = 1 ∨ n = 2 ∨ 3 ≤ n := by omega
  rcases h with rfl | rfl | rfl | h
  · refine ⟨?_, fun _ => rfl⟩
    simp only [if_neg (Nat.not_lt_zero _)]
    rw [fitsF_cons_none _ _ (by omega), fitsF_cons_none _ _ (by omega), fitsF_cons_none _ _ (by omega), fitsF_cons_none _ _ (by omega), fitsF_cons_none _ _ (by omega)]
    rfl
  · refine ⟨?_, fun _ => rfl⟩
    rw [if_pos (by omega), if_neg (by omega), if_neg (by omega), if_neg (by omega), if_neg (by omega)]
    rw [fitsF_cons_ok hl hd 0 (by omega), fitsF_cons_none _ _ (by omega), fitsF_cons_none _ _ (by omega), fitsF_cons_none _ _ (by omega), fitsF_cons_none _ _ (by omega)]
    rfl
  · refine ⟨?_, fun _ => rfl⟩
    rw [if_pos (by omega), if_pos (by omega), if_neg (by omega), if_neg (by omega), if_neg (by omega)]
    rw [fitsF_cons_ok hl hd 0 (by omega), fitsF_cons_ok hl hd 1 (by omega), fitsF_cons_none _ _ (by omega), fitsF_cons_none _ _ (by omega), fitsF_cons_none _ _ (by omega)]
    rfl
  · refine ⟨?_, fun h => by omega⟩
    rw [if_pos h, if_pos (by omega), if_pos (by omega), if_pos (by omega)]
    rw [fitsF_cons_ok hl hd 0 (by omega), fitsF_cons_ok hl hd 1 (by omega), fitsF_cons_ok hl hd 2 (by omega)]
    exact joined_three _ ht
/-- The chapter's example. -/
def aN : Tx := [97]
def aX : Shelf := ⟨[⟨[97], [120], [], false⟩], []⟩
theorem alive_tell : one (toldS aN) goneT (-1) aX = (aX, ⟨[120], 0, false⟩) := by kernel_rfl
theorem alive_fit : fitP aN 4 [120] = none := by kernel_rfl
def aliveT (d : Tx) (i : Nat) : Told := if i = 1 then ⟨[], 9, false⟩ else if i = 4 then ⟨[120], 0, false⟩ else ⟨partOf aN d i, 0, false⟩
theorem alive_read {d : Tx} (hd : d.length ≤ 65536) : joinedP (fitsP aN ((List.range 5).map (aliveT d))) = some d := by
  have hl : aN.length ≤ 100 := by decide
  have ht := try_parts d 0 2 3 (by omega) (by omega) (by omega)
  have e5 : ∀ f : Nat → Told, (List.range 5).map f = [f 0, f 1, f 2, f 3, f 4] := fun f => rfl
  rw [e5]
  unfold fitsP aliveT
  rw [if_neg (by omega), if_neg (by omega), if_pos rfl, if_neg (by omega), if_neg (by omega), if_neg (by omega), if_neg (by omega), if_neg (by omega), if_pos rfl]
  rw [fitsF_cons_ok hl hd 0 (by omega), fitsF_cons_none _ _ (by omega), fitsF_cons_ok hl hd 2 (by omega), fitsF_cons_ok hl hd 3 (by omega)]
  exact joined_three _ ht
end Go.Proofs.YtdnebgilkfafhaaGreatDoor.Pl
