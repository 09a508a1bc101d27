/- Plain Lean: messages as bytes; two that may be have the same bytes just if they are one. No program in sight. -/
import Derived.Test.YtommlolhpaeioaaDoorMfPl2
set_option linter.unusedVariables false
namespace Go.Proofs.YtommlolhpaeioaaDoor.Pl
open Lib
structure Msg where
  k : Int
  data : List UInt8
  snap : Snap
  n : Int
  why : Int
def plainS (s : Snap) : Bool := eqS s zeroS
theorem plainS_iff (s : Snap) : plainS s = true ↔ s = zeroS := eqS_iff s zeroS
/-- Are all fields zero, but the kind? -/
def emptyM (m : Msg) : Bool := decide (m.data = []) && (plainS m.snap && (decide (m.n = 0) && decide (m.why = 0)))
/-- The message without what its kind has. -/
def bareM (m : Msg) : Msg := if m.k = 1 ∨ m.k = 2 then { m with data := [] } else if m.k = 3 then { m with snap := zeroS } else if m.k = 4 then { m with n := 0 } else if m.k = 5 then { m with why := 0 } else m
def knownM (m : Msg) : Bool := decide (1 ≤ m.k ∧ m.k ≤ 6)
def aloneM (m : Msg) : Bool := emptyM (bareM m)
def kindE (m : Msg) : Nat :=
  if m.k = 1 then (if 65536 < m.data.length then 6 else 0)
  else if m.k = 2 then (if m.data.length < 1 ∨ 100 < m.data.length then 1 else 0)
  else if m.k = 3 then mchk m.snap
  else if m.k = 4 then (if m.n < 0 then 1 else 0)
  else if m.k = 5 then (if m.why < 1 ∨ 23 < m.why then 1 else 0) else 0
def wchk (m : Msg) : Nat := if knownM m = false then 11 else if aloneM m = false then 1 else kindE m
def bodyM (m : Msg) : List UInt8 := if m.k = 1 ∨ m.k = 2 then m.data else if m.k = 3 then (mbytes m.snap).1 else if m.k = 4 then itoa m.n else if m.k = 5 then itoa m.why else []
def wput (m : Msg) : List UInt8 × Nat := if wchk m = 0 then (rowB [itoa m.k, bodyM m], 0) else ([], wchk m)
theorem wput_ok {m : Msg} (h : wchk m = 0) : wput m = (rowB [itoa m.k, bodyM m], 0) := by unfold wput; rw [if_pos h]
theorem wput_no {m : Msg} (h : wchk m ≠ 0) : wput m = ([], wchk m) := by unfold wput; rw [if_neg h]
structure WOk (m : Msg) : Prop where
  k : 1 ≤ m.k ∧ m.k ≤ 6
  a : aloneM m = true
  e : kindE m = 0
theorem wOk_of {m : Msg} (h : wchk m = 0) : WOk m := by
  unfold wchk at h
  split at h
  · cases h
  next h0 =>
  split at h
  · cases h
  next h1 =>
  have h0' : knownM m = true := by simpa using h0
  exact ⟨of_decide_eq_true h0', by simpa using h1, h⟩
def eqM (a b : Msg) : Bool := decide (a.k = b.k) && (decide (a.data = b.data) && (decide (a.n = b.n) && (decide (a.why = b.why) && eqS a.snap b.snap)))
theorem eqM_iff (a b : Msg) : eqM a b = true ↔ a = b := by
  unfold eqM
  simp only [Bool.and_eq_true, decide_eq_true_eq, eqS_iff]
  constructor
  · rintro ⟨h1, h2, h3, h4, h5⟩
    cases a; cases b; simp_all
  · rintro rfl; simp
/-- What stands in a message that may be. -/
structure MOk (m : Msg) : Prop where
  sum : m.snap.sum.length = 32
  clk : 0 ≤ m.snap.clock ∧ m.snap.clock < 18446744073709551616
  k : I64 m.k
  n : I64 m.n
  why : I64 m.why
theorem alone_12 {m : Msg} (h : m.k = 1 ∨ m.k = 2) (ha : aloneM m = true) : m.snap = zeroS ∧ m.n = 0 ∧ m.why = 0 := by
  unfold aloneM bareM emptyM at ha
  rw [if_pos h] at ha
  simp only [Bool.and_eq_true, decide_eq_true_eq, plainS_iff] at ha
  exact ⟨ha.2.1, ha.2.2.1, ha.2.2.2⟩
theorem alone_3 {m : Msg} (h : m.k = 3) (ha : aloneM m = true) : m.data = [] ∧ m.n = 0 ∧ m.why = 0 := by
  unfold aloneM bareM emptyM at ha
  rw [if_neg (by omega), if_pos h] at ha
  simp only [Bool.and_eq_true, decide_eq_true_eq, plainS_iff] at ha
  exact ⟨ha.1, ha.2.2.1, ha.2.2.2⟩
theorem alone_4 {m : Msg} (h : m.k = 4) (ha : aloneM m = true) : m.data = [] ∧ m.snap = zeroS ∧ m.why = 0 := by
  unfold aloneM bareM emptyM at ha
  rw [if_neg (by omega), if_neg (by omega), if_pos h] at ha
  simp only [Bool.and_eq_true, decide_eq_true_eq, plainS_iff] at ha
  exact ⟨ha.1, ha.2.1, ha.2.2.2⟩
theorem alone_5 {m : Msg} (h : m.k = 5) (ha : aloneM m = true) : m.data = [] ∧ m.snap = zeroS ∧ m.n = 0 := by
  unfold aloneM bareM emptyM at ha
  rw [if_neg (by omega), if_neg (by omega), if_neg (by omega), if_pos h] at ha
  simp only [Bool.and_eq_true, decide_eq_true_eq, plainS_iff] at ha
  exact ⟨ha.1, ha.2.1, ha.2.2.1⟩
theorem alone_6 {m : Msg} (h : m.k = 6) (ha : aloneM m = true) : m.data = [] ∧ m.snap = zeroS ∧ m.n = 0 ∧ m.why = 0 := by
  unfold aloneM bareM emptyM at ha
  rw [if_neg (by omega), if_neg (by omega), if_neg (by omega), if_neg (by omega)] at ha
  simp only [Bool.and_eq_true, decide_eq_true_eq, plainS_iff] at ha
  exact ⟨ha.1, ha.2.1, ha.2.2.1, ha.2.2.2⟩
theorem rowB_len_le (l : List (List UInt8)) (b : Nat) (h : ∀ t ∈ l, t.length ≤ b) : (rowB l).length ≤ l.length * (2 * b + 1) := by
  induction l with
  | nil => simp [rowB]
  | cons x l ih =>
    have h1 := h x (by simp)
    have h2 := ih fun t ht => h t (by simp [ht])
    have h3 := lenB_len x.length
    simp only [rowB, List.length_append, List.length_cons, Nat.add_mul]
    omega
theorem mbytes_short {s : Snap} (h : mchk s = 0) (hs : s.sum.length = 32) : (mbytes s).1.length ≤ 704011 := by
  rw [mbytes_ok h]
  have := rowB_len_le (sheet s) 32000 (sheet_short (chkOk_of h) hs)
  simp only [show (sheet s).length = 11 from rfl] at this
  exact this
theorem body_short {m : Msg} (h : WOk m) (hm : MOk m) : (bodyM m).length ≤ 704011 := by
  have he := h.e
  have hk := h.k
  unfold kindE at he
  unfold bodyM
  by_cases h1 : m.k = 1
  · rw [if_pos h1] at he
    rw [if_pos (.inl h1)]
    split at he
    · cases he
    · omega
  by_cases h2 : m.k = 2
  · rw [if_neg h1, if_pos h2] at he
    rw [if_pos (.inr h2)]
    split at he
    · cases he
    · omega
  rw [if_neg (by omega)]
  by_cases h3 : m.k = 3
  · rw [if_neg h1, if_neg h2, if_pos h3] at he
    rw [if_pos h3]
    exact mbytes_short he hm.sum
  rw [if_neg h3]
  by_cases h4 : m.k = 4
  · rw [if_pos h4]
    have := (itoa_len hm.n).2; omega
  rw [if_neg h4]
  by_cases h5 : m.k = 5
  · rw [if_pos h5]
    have := (itoa_len hm.why).2; omega
  rw [if_neg h5]; simp
theorem row_short {m : Msg} (h : WOk m) (hm : MOk m) : ∀ t ∈ [itoa m.k, bodyM m], t.length ≤ 704011 := by
  intro t ht
  simp only [List.mem_cons, List.not_mem_nil, or_false] at ht
  rcases ht with rfl | rfl
  · have := (itoa_len hm.k).2; omega
  · exact body_short h hm
/-- Two messages that may be have the same bytes just if they are one. -/
theorem wput_inj {a b : Msg} (ha : wchk a = 0) (hb : wchk b = 0) (ma : MOk a) (mb : MOk b) : decide ((wput a).1 = (wput b).1) = eqM a b := by
  rw [Bool.eq_iff_iff, decide_eq_true_eq, eqM_iff, wput_ok ha, wput_ok hb]
  have oa := wOk_of ha
  have ob := wOk_of hb
  constructor
  · intro h
    have hl := rowB_inj _ _ (fun s hs => by have := row_short oa ma s hs; omega) (fun s hs => by have := row_short ob mb s hs; omega) h
    simp only [List.cons.injEq, and_true] at hl
    obtain ⟨e1, e2⟩ := hl
    have hk := itoa_inj ma.k mb.k e1
    obtain ⟨ak, ad, as_, an, aw⟩ := a
    obtain ⟨bk, bd, bs, bn, bw⟩ := b
    simp only at hk
    subst hk
    have hk1 := oa.k
    have ea := oa.e
    have eb := ob.e
    unfold bodyM at e2
    unfold kindE at ea eb
    simp only at hk1 e2 ea eb
    by_cases h12 : ak = 1 ∨ ak = 2
    · obtain ⟨x1, x2, x3⟩ := alone_12 (m := ⟨ak, ad, as_, an, aw⟩) h12 oa.a
      obtain ⟨y1, y2, y3⟩ := alone_12 (m := ⟨ak, bd, bs, bn, bw⟩) h12 ob.a
      rw [if_pos h12, if_pos h12] at e2
      simp only at x1 x2 x3 y1 y2 y3
      subst x1 x2 x3 y1 y2 y3 e2
      rfl
    rw [if_neg h12, if_neg h12] at e2
    rw [if_neg (by omega), if_neg (by omega)] at ea eb
    by_cases h3 : ak = 3
    · obtain ⟨x1, x2, x3⟩ := alone_3 (m := ⟨ak, ad, as_, an, aw⟩) h3 oa.a
      obtain ⟨y1, y2, y3⟩ := alone_3 (m := ⟨ak, bd, bs, bn, bw⟩) h3 ob.a
      rw [if_pos h3, if_pos h3] at e2
      rw [if_pos h3] at ea eb
      have := mbytes_inj ea eb ma.sum mb.sum ma.clk mb.clk
      rw [decide_eq_true e2] at this
      have hs := (eqS_iff _ _).1 this.symm
      simp only at x1 x2 x3 y1 y2 y3 hs
      subst x1 x2 x3 y1 y2 y3 hs
      rfl
    rw [if_neg h3, if_neg h3] at e2
    by_cases h4 : ak = 4
    · obtain ⟨x1, x2, x3⟩ := alone_4 (m := ⟨ak, ad, as_, an, aw⟩) h4 oa.a
      obtain ⟨y1, y2, y3⟩ := alone_4 (m := ⟨ak, bd, bs, bn, bw⟩) h4 ob.a
      rw [if_pos h4, if_pos h4] at e2
      have hn := itoa_inj ma.n mb.n e2
      simp only at x1 x2 x3 y1 y2 y3 hn
      subst x1 x2 x3 y1 y2 y3 hn
      rfl
    rw [if_neg h4, if_neg h4] at e2
    by_cases h5 : ak = 5
    · obtain ⟨x1, x2, x3⟩ := alone_5 (m := ⟨ak, ad, as_, an, aw⟩) h5 oa.a
      obtain ⟨y1, y2, y3⟩ := alone_5 (m := ⟨ak, bd, bs, bn, bw⟩) h5 ob.a
      rw [if_pos h5, if_pos h5] at e2
      have hn := itoa_inj ma.why mb.why e2
      simp only at x1 x2 x3 y1 y2 y3 hn
      subst x1 x2 x3 y1 y2 y3 hn
      rfl
    obtain ⟨x1, x2, x3, x4⟩ := alone_6 (m := ⟨ak, ad, as_, an, aw⟩) (by show ak = 6; omega) oa.a
    obtain ⟨y1, y2, y3, y4⟩ := alone_6 (m := ⟨ak, bd, bs, bn, bw⟩) (by show ak = 6; omega) ob.a
    simp only at x1 x2 x3 x4 y1 y2 y3 y4
    subst x1 x2 x3 x4 y1 y2 y3 y4
    rfl
  · rintro rfl; rfl
end Go.Proofs.YtommlolhpaeioaaDoor.Pl
