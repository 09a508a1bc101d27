/- A root, in plain Lean, and how it lies in memory; a hold that is set, in plain Lean. -/
import Derived.Test.YteamkiblogbfmaaPolMem
namespace Go.Proofs.Yteamkiblogbfmaa
open Go.RowKit
set_option linter.unusedVariables false
namespace Pl
structure Plc where
  nm : List UInt8
  a : Int
  l : Int
structure Pkd where
  nm : List UInt8
  pl : List Plc
structure Cha where
  m : List UInt8
  n : Int
  key : List UInt8
instance : Inhabited Plc := ⟨⟨[], 0, 0⟩⟩
instance : Inhabited Pkd := ⟨⟨[], []⟩⟩
instance : Inhabited Cha := ⟨⟨[], 0, []⟩⟩
/-- All that a store knows. -/
structure Rt where
  n : Int
  now : Int
  l : List Rf
  pk : List Pkd
  p : Pol
  ch : List Cha
def Rt.zero : Rt := ⟨0, 0, [], [], ⟨0, 0, 0, 0⟩, []⟩
/-- The place of a snapshot; the list's length, if it is not there. -/
def fi (l : List Rf) (m : List UInt8) (n : Int) : Nat := l.findIdx fun x => decide (x.m = m ∧ x.n = n)
def setE (R : Rt) (m : List UInt8) (n til : Int) : Int :=
  if R.l.length ≤ fi R.l m n then 9 else if til ≤ R.now then 1 else if til < (R.l.getD (fi R.l m n) default).til then 20 else 0
def hold1 (l : List Rf) (i : Nat) (til : Int) : List Rf := l.set i { l.getD i default with til := til }
def setR (R : Rt) (m : List UInt8) (n til : Int) : Rt := if setE R m n til = 0 then { R with l := hold1 R.l (fi R.l m n) til } else Rt.zero
theorem fi_le (l : List Rf) (m : List UInt8) (n : Int) : fi l m n ≤ l.length := List.findIdx_le_length
theorem fi_at {l : List Rf} {m : List UInt8} {n : Int} {i : Nat} (hi : i < l.length) (h : ∀ j, j < i → ¬ ((l.getD j default).m = m ∧ (l.getD j default).n = n)) (g : (l.getD i default).m = m ∧ (l.getD i default).n = n) : fi l m n = i := by
  unfold fi
  rw [List.findIdx_eq hi]
  rw [List.getD_eq_getElem?_getD, List.getElem?_eq_getElem hi] at g
  refine ⟨decide_eq_true g, fun j hj => decide_eq_false ?_⟩
  have := h j hj
  rwa [List.getD_eq_getElem?_getD, List.getElem?_eq_getElem (by omega)] at this
theorem fi_none {l : List Rf} {m : List UInt8} {n : Int} (h : ∀ j, j < l.length → ¬ ((l.getD j default).m = m ∧ (l.getD j default).n = n)) : fi l m n = l.length := by
  unfold fi
  rw [List.findIdx_eq_length]
  intro x hx
  obtain ⟨j, hj, rfl⟩ := List.getElem_of_mem hx
  have := h j hj
  rw [List.getD_eq_getElem?_getD, List.getElem?_eq_getElem hj] at this
  exact decide_eq_false this
end Pl
def plC (x : Pl.Plc) : List Value := [.string ⟨x.nm.toArray⟩, .int .i64 x.a, .int .i64 x.l]
def plCs (l : List Pl.Plc) : List Value := l.flatMap plC
def chC (x : Pl.Cha) : List Value := [.string ⟨x.m.toArray⟩, .int .u64 x.n] ++ x.key.map fun b => .int .u8 (b.toNat : Int)
def chCs (l : List Pl.Cha) : List Value := l.flatMap chC
def pkC (x : Pl.Pkd × Value) : List Value := [.string ⟨x.1.nm.toArray⟩, x.2]
def pkCs (P : List Pl.Pkd) (sv : List Value) : List Value := (P.zip sv).flatMap pkC
/-- A slice's value, and the cells that it holds. -/
def SlV (w : World) (k : Nat) (v : Value) (n : Nat) (xs : List Value) : Prop := ∃ A c, v = .slice A n c ∧ Rd w k A n xs ∧ (A = none → c = 0)
theorem SlV.below {w w' : World} {k n : Nat} {v : Value} {xs : List Value} (h : SlV w k v n xs) (hb : Below w.heap.size w w') : SlV w' k v n xs := by
  obtain ⟨A, c, h1, h2, h3⟩ := h
  exact ⟨A, c, h1, h2.below hb, h3⟩
theorem SlV.own {w : World} {base : Nat} {e : TypeId} {k n : Nat} {v : Value} {xs : List Value} (h : w.ownsRow base e k v n xs) : SlV w k v n xs := by
  obtain ⟨A, c, rfl⟩ := own_form' h
  refine ⟨A, c, rfl, Rd.own h, ?_⟩
  rintro rfl
  rcases h.2 with ⟨h1, -⟩ | ⟨g, cap, cur, h1, -⟩
  · injection h1
  · cases h1
theorem SlV.nil (w : World) (k : Nat) : SlV w k (.slice none 0 0) 0 [] := ⟨none, 0, rfl, Rd.nil, fun _ => rfl⟩
/-- The packs of a root, with all their places. -/
def PkV (w : World) (v : Value) (P : List Pl.Pkd) : Prop := ∃ sv : List Value, sv.length = P.length ∧ SlV w 2 v P.length (pkCs P sv) ∧ ∀ (i : Nat) (x : Pl.Pkd) (s : Value), P[i]? = some x → sv[i]? = some s → SlV w 3 s x.pl.length (plCs x.pl)
theorem PkV.below {w w' : World} {v : Value} {P : List Pl.Pkd} (h : PkV w v P) (hb : Below w.heap.size w w') : PkV w' v P := by
  obtain ⟨sv, h1, h2, h3⟩ := h
  exact ⟨sv, h1, h2.below hb, fun i x s hx hs => (h3 i x s hx hs).below hb⟩
theorem PkV.nil (w : World) : PkV w (.slice none 0 0) [] := ⟨[], rfl, SlV.nil _ _, fun i x s hx => by simp at hx⟩
/-- A root's value, its three slices being given. -/
def rtV (R : Pl.Rt) (s p c : Value) : Value := .agg #[.int .i64 R.n, .int .i64 R.now, s, p, .int .i64 R.p.d, .int .i64 R.p.w, .int .i64 R.p.mo, .int .i64 R.p.y, c]
/-- A root in memory. -/
structure RtAt (w : World) (R : Pl.Rt) (s p c : Value) : Prop where
  s : SlV w 5 s R.l.length (rfCs R.l)
  p : PkV w p R.pk
  c : SlV w 34 c R.ch.length (chCs R.ch)
theorem RtAt.below {w w' : World} {R : Pl.Rt} {s p c : Value} (h : RtAt w R s p c) (hb : Below w.heap.size w w') : RtAt w' R s p c := ⟨h.s.below hb, h.p.below hb, h.c.below hb⟩
def RootV (R : Pl.Rt) (v : Value) (w : World) : Prop := ∃ s p c, v = rtV R s p c ∧ RtAt w R s p c
theorem RootV.below {w w' : World} {R : Pl.Rt} {v : Value} (h : RootV R v w) (hb : Below w.heap.size w w') : RootV R v w' := by
  obtain ⟨s, p, c, h1, h2⟩ := h
  exact ⟨s, p, c, h1, h2.below hb⟩
theorem RootV.zero (w : World) : RootV Pl.Rt.zero (rtV Pl.Rt.zero (.slice none 0 0) (.slice none 0 0) (.slice none 0 0)) w := ⟨_, _, _, rfl, SlV.nil _ _, PkV.nil _, SlV.nil _ _⟩
/-- What a root's numbers and lists may be. -/
structure RtOk (R : Pl.Rt) : Prop where
  l : R.l.length * 56 ≤ 140737488355328
  fit : ∀ x ∈ R.l, (-9223372036854775808 ≤ x.t ∧ x.t ≤ 9223372036854775807) ∧ (-9223372036854775808 ≤ x.n ∧ x.n ≤ 9223372036854775807) ∧ (-9223372036854775808 ≤ x.til ∧ x.til ≤ 9223372036854775807)
  now : -9223372036854775808 ≤ R.now ∧ R.now ≤ 9223372036854775807
  pk : R.pk.length * 40 ≤ 140737488355328
  pl : ∀ x ∈ R.pk, x.pl.length * 32 ≤ 140737488355328
  ch : R.ch.length * 56 ≤ 140737488355328
  key : ∀ x ∈ R.ch, x.key.length = 32
theorem flat_get {α : Type} (f : α → List Value) (k : Nat) (l : List α) (hf : ∀ x ∈ l, (f x).length = k) (i j : Nat) (h : i < l.length) (hj : j < k) : (l.flatMap f)[i * k + j]? = (f l[i])[j]? := by
  rw [List.flatMap_def, rf_flat k (l.map f) (by intro y hy; obtain ⟨x, hx, rfl⟩ := List.mem_map.1 hy; exact hf x hx) i j (by simpa using h) hj]
  simp
theorem pkCs_len (P : List Pl.Pkd) (sv : List Value) (h : sv.length = P.length) : (pkCs P sv).length = P.length * 2 := by
  have hz : (P.zip sv).length = P.length := by simp [h]
  unfold pkCs
  rw [← hz]
  generalize P.zip sv = Z
  induction Z with
  | nil => rfl
  | cons x l ih => rw [List.flatMap_cons, List.length_append, ih, List.length_cons]; show 2 + _ = _; omega
theorem pkCs_get (P : List Pl.Pkd) (sv : List Value) (h : sv.length = P.length) (i : Nat) (hi : i < P.length) : (pkCs P sv)[i * 2]? = some (.string ⟨(P.getD i default).nm.toArray⟩) ∧ (pkCs P sv)[i * 2 + 1]? = sv[i]? := by
  have hz : i < (P.zip sv).length := by rw [List.length_zip]; omega
  have g := fun (j : Nat) (hj : j < 2) => flat_get pkC 2 (P.zip sv) (fun _ _ => rfl) i j hz hj
  have g0 := g 0 (by omega)
  have g1 := g 1 (by omega)
  unfold pkCs
  simp only [List.getElem_zip, pkC] at g0 g1
  refine ⟨?_, ?_⟩
  · rw [List.getD_eq_getElem?_getD, List.getElem?_eq_getElem hi]; exact g0
  · rw [g1, List.getElem?_eq_getElem (l := sv) (by omega)]; rfl
theorem pkCs_set (P : List Pl.Pkd) (sv : List Value) (h : sv.length = P.length) (i : Nat) (hi : i < P.length) (u : Value) : (pkCs P sv).set (i * 2 + 1) u = pkCs P (sv.set i u) := by
  have hl := pkCs_len P sv h
  have hl2 := pkCs_len P (sv.set i u) (by simpa using h)
  refine List.ext_getElem? fun q => ?_
  rw [List.getElem?_set, hl]
  rcases Nat.lt_or_ge q (P.length * 2) with hq | hq
  · have hq2 : q / 2 < P.length := by omega
    have a := pkCs_get P sv h (q / 2) hq2
    have b := pkCs_get P (sv.set i u) (by simpa using h) (q / 2) hq2
    rw [List.getElem?_set, h] at b
    rcases Nat.mod_two_eq_zero_or_one q with hm | hm
    · rw [show q = q / 2 * 2 by omega, if_neg (by omega), a.1, b.1]
    · rw [show q = q / 2 * 2 + 1 by omega, a.2, b.2]
      by_cases hiq : i = q / 2
      · rw [if_pos (by omega), if_pos hiq, if_pos (by omega), if_pos (by omega)]
      · rw [if_neg (by omega), if_neg hiq]
  · rw [if_neg (by omega), List.getElem?_eq_none (by omega), List.getElem?_eq_none (by omega)]
theorem pkCs_one (P : List Pl.Pkd) (sv : List Value) (h : ∀ s ∈ sv, s.oneCell' = true) : ∀ u ∈ pkCs P sv, u.oneCell' = true := by
  intro u hu
  unfold pkCs at hu
  obtain ⟨⟨x, s⟩, hx, hu⟩ := List.mem_flatMap.1 hu
  simp only [pkC, List.mem_cons, List.not_mem_nil, or_false] at hu
  rcases hu with rfl | rfl
  · rfl
  · exact h _ (List.of_mem_zip hx).2
theorem plCs_one (l : List Pl.Plc) : ∀ u ∈ plCs l, u.oneCell' = true := by
  intro u hu
  unfold plCs at hu
  obtain ⟨x, hx, hu⟩ := List.mem_flatMap.1 hu
  simp only [plC, List.mem_cons, List.not_mem_nil, or_false] at hu
  rcases hu with rfl | rfl | rfl <;> rfl
theorem chCs_one (l : List Pl.Cha) : ∀ u ∈ chCs l, u.oneCell' = true := by
  intro u hu
  unfold chCs at hu
  obtain ⟨x, hx, hu⟩ := List.mem_flatMap.1 hu
  simp only [chC, List.mem_append, List.mem_cons, List.not_mem_nil, or_false, List.mem_map] at hu
  rcases hu with (rfl | rfl) | ⟨b, _, rfl⟩ <;> rfl
theorem SlV.one {w : World} {k n : Nat} {v : Value} {xs : List Value} (h : SlV w k v n xs) : v.oneCell' = true := by
  obtain ⟨A, c, rfl, -⟩ := h; rfl
theorem PkV.one {w : World} {P : List Pl.Pkd} {sv : List Value} (hl : sv.length = P.length) (h : ∀ (i : Nat) (x : Pl.Pkd) (s : Value), P[i]? = some x → sv[i]? = some s → SlV w 3 s x.pl.length (plCs x.pl)) : ∀ s ∈ sv, s.oneCell' = true := by
  intro s hs
  obtain ⟨i, hi, rfl⟩ := List.getElem_of_mem hs
  exact (h i P[i] sv[i] (List.getElem?_eq_getElem _) (List.getElem?_eq_getElem _)).one
end Go.Proofs.Yteamkiblogbfmaa
