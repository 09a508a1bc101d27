/- Plain Lean: a hold takes at most its own snapshot from those that may go. -/
import Derived.Test.YteamkiblogbfmaaHoldPl2
import Derived.Test.YteamkiblogbfmaaHoldPl3
namespace Go.Proofs.Yteamkiblogbfmaa
open Go.RowKit
set_option linter.unusedVariables false
set_option linter.unusedSimpArgs false
def bare (x : Pl.Rf) : Pl.Rf := { x with til := 0 }
theorem aboveF_bare (k : Nat) (m : List UInt8) (own : Int) : ∀ (l : List Pl.Rf) (a : List Int), Pl.aboveF k m own (l.map bare) a = Pl.aboveF k m own l a
  | [], a => rfl
  | y :: r, a => by
    simp only [List.map_cons, Pl.aboveF, aboveF_bare k m own r]; rfl
theorem keptD_bare (l : List Pl.Rf) (x : Pl.Rf) (k : Nat) (n : Int) : Pl.keptD (l.map bare) x k n = Pl.keptD l x k n := by
  unfold Pl.keptD Pl.above Pl.beaten
  rw [aboveF_bare, List.any_map]; rfl
theorem keptD_same {l l' : List Pl.Rf} (h : l.map bare = l'.map bare) (x : Pl.Rf) (k : Nat) (n : Int) : Pl.keptD l x k n = Pl.keptD l' x k n := by
  rw [← keptD_bare l, ← keptD_bare l', h]
theorem keepF_hold1 (p : Pl.Pol) (l : List Pl.Rf) (i : Nat) (til now : Int) (x : Pl.Rf) : keepF p (Pl.hold1 l i til) now x = keepF p l now x := by
  have h : (Pl.hold1 l i til).map bare = l.map bare := hold1_map bare (fun _ _ => rfl) l i til
  unfold keepF Pl.keptAny
  simp only [keptD_same h]
/-- What may go now (b), of what could go before (a): at most one of this machine has left. -/
def Gr (m : List UInt8) (a b : List Pl.Rf) : Prop := a = b ∨ ∃ A z B, a = A ++ z :: B ∧ b = A ++ B ∧ z.m = m
theorem hold1_cut {l : List Pl.Rf} {i : Nat} (til : Int) (hi : i < l.length) : ∃ A B, l = A ++ l.getD i default :: B ∧ Pl.hold1 l i til = A ++ { l.getD i default with til := til } :: B := by
  have e : l.getD i default = l[i] := by rw [List.getD_eq_getElem?_getD, List.getElem?_eq_getElem hi]; rfl
  refine ⟨l.take i, l.drop (i + 1), ?_, ?_⟩
  · rw [e, ← List.drop_eq_getElem_cons hi, List.take_append_drop]
  · unfold Pl.hold1
    rw [List.set_eq_take_append_cons_drop, if_pos hi]
theorem fi_mach {l : List Pl.Rf} {m : List UInt8} {n : Int} (h : Pl.fi l m n < l.length) : (l.getD (Pl.fi l m n) default).m = m := by
  have e : l.getD (Pl.fi l m n) default = l[Pl.fi l m n] := by rw [List.getD_eq_getElem?_getD, List.getElem?_eq_getElem h]; rfl
  rw [e]
  have := List.findIdx_getElem (p := fun x : Pl.Rf => decide (x.m = m ∧ x.n = n)) (w := h)
  exact (of_decide_eq_true this).1
theorem filter_less {m : List UInt8} (F : Pl.Rf → Bool) (A B : List Pl.Rf) (z y : Pl.Rf) (hm : z.m = m) (hy : F y = false) : Gr m ((A ++ z :: B).filter F) ((A ++ y :: B).filter F) := by
  have e : (A ++ y :: B).filter F = A.filter F ++ B.filter F := by simp [List.filter_append, List.filter_cons, hy]
  rw [e]
  cases hz : F z
  · exact .inl (by simp [List.filter_append, List.filter_cons, hz])
  · exact .inr ⟨_, z, _, by simp only [List.filter_append, List.filter_cons, hz, if_true], rfl, hm⟩
theorem set_less {R : Pl.Rt} {m : List UInt8} {n til : Int} (h : Pl.setE R m n til = 0) : Gr m (sel true (prs R)) (sel true (prs (Pl.setR R m n til))) := by
  obtain ⟨h1, h2, -⟩ := setE_0 h
  rw [setR_yes h, sel_true_eq, sel_true_eq]
  obtain ⟨A, B, e1, e2⟩ := hold1_cut til h1
  have hf : (fun x => !keepF R.p (Pl.hold1 R.l (Pl.fi R.l m n) til) R.now x) = fun x => !keepF R.p R.l R.now x := by
    funext x; rw [keepF_hold1]
  simp only [hf]
  rw [e2]
  obtain ⟨F, hF⟩ : ∃ F, F = fun x => !keepF R.p R.l R.now x := ⟨_, rfl⟩
  rw [← hF]
  have key := filter_less F A B (R.l.getD (Pl.fi R.l m n) default) { R.l.getD (Pl.fi R.l m n) default with til := til } (fi_mach h1) (by
    rw [hF]
    simp only [keepF, Bool.not_eq_false', Bool.or_eq_true]
    exact .inr (decide_eq_true h2))
  rw [← e1] at key
  exact key
theorem Gr.len {m : List UInt8} {a b : List Pl.Rf} (h : Gr m a b) : b.length ≤ a.length := by
  rcases h with rfl | ⟨A, z, B, rfl, rfl, -⟩
  · omega
  · simp
theorem Gr.same {m : List UInt8} {x : Pl.Rf} {a b : List Pl.Rf} (h : Gr m (x :: a) (x :: b)) : Gr m a b := by
  rcases h with h | ⟨A, z, B, h1, h2, hm⟩
  · injection h with _ h; exact .inl h
  · cases A with
    | nil =>
      simp only [List.nil_append] at h1 h2
      injection h1 with e1 e2
      subst e1 e2
      subst h2
      exact .inr ⟨[], x, b, rfl, rfl, hm⟩
    | cons y A =>
      simp only [List.cons_append] at h1 h2
      injection h1 with e1 e2
      injection h2 with e3 e4
      exact .inr ⟨A, z, B, e2, e4, hm⟩
theorem Gr.skip {m : List UInt8} {x y : Pl.Rf} {a b : List Pl.Rf} (h : Gr m (x :: a) (y :: b)) (hne : x ≠ y) : x.m = m ∧ Gr m a (y :: b) := by
  rcases h with h | ⟨A, z, B, h1, h2, hm⟩
  · injection h with h _; exact absurd h hne
  · cases A with
    | nil =>
      simp only [List.nil_append] at h1 h2
      injection h1 with e1 e2
      subst e1 e2
      exact ⟨hm, .inl h2.symm⟩
    | cons w A =>
      simp only [List.cons_append] at h1 h2
      injection h1 with e1 e2
      injection h2 with e3 e4
      exact absurd (e1.trans e3.symm) hne
theorem Gr.last {m : List UInt8} {x : Pl.Rf} {a : List Pl.Rf} (h : Gr m (x :: a) []) : x.m = m ∧ Gr m a [] := by
  rcases h with h | ⟨A, z, B, h1, h2, hm⟩
  · cases h
  · have hA : A = [] := by cases A with | nil => rfl | cons _ _ => cases h2
    have hB : B = [] := by cases B with | nil => rfl | cons _ _ => rw [hA] at h2; cases h2
    subst hA hB
    simp only [List.nil_append] at h1
    injection h1 with e1 e2
    subst e1 e2
    exact ⟨hm, .inl rfl⟩
theorem drop_at {l : List Pl.Rf} {i : Nat} (h : i < l.length) : l.drop i = l.getD i default :: l.drop (i + 1) := by
  rw [List.drop_eq_getElem_cons h, List.getD_eq_getElem?_getD, List.getElem?_eq_getElem h]; rfl
theorem Gr.more {m : List UInt8} {a b : List Pl.Rf} {i n : Nat} (h : Gr m (a.drop i) (b.drop n)) (hn : n < b.length) : i < a.length := by
  have := h.len
  rw [List.length_drop, List.length_drop] at this
  omega
theorem Gr.dsame {m : List UInt8} {a b : List Pl.Rf} {i n : Nat} (h : Gr m (a.drop i) (b.drop n)) (hn : n < b.length) (he : a.getD i default = b.getD n default) : Gr m (a.drop (i + 1)) (b.drop (n + 1)) := by
  rw [drop_at (h.more hn), drop_at hn, he] at h
  exact h.same
theorem Gr.dskip {m : List UInt8} {a b : List Pl.Rf} {i n : Nat} (h : Gr m (a.drop i) (b.drop n)) (hn : n < b.length) (he : a.getD i default ≠ b.getD n default) : (a.getD i default).m = m ∧ Gr m (a.drop (i + 1)) (b.drop n) := by
  have h2 := h
  rw [drop_at (h.more hn), drop_at hn] at h2
  rw [drop_at hn]
  exact h2.skip he
theorem Gr.dlast {m : List UInt8} {a b : List Pl.Rf} {i : Nat} (h : Gr m (a.drop i) (b.drop b.length)) (hi : i < a.length) : (a.getD i default).m = m ∧ Gr m (a.drop (i + 1)) (b.drop b.length) := by
  rw [List.drop_length] at h ⊢
  rw [drop_at hi] at h
  exact h.last
end Go.Proofs.Yteamkiblogbfmaa
