/- The walks of the document's Names, Great and Same of snapshots. -/
import Derived.Test.YtadoplgmeoghmaaDoorInsW
namespace Go.Proofs.YtadoplgmeoghmaaDoor
open Go.RowKit
set_option linter.unusedVariables false
set_option linter.unusedSimpArgs false
attribute [local go_sem] ba_get ba_cut ba_add
/-- The k-th row of names. -/
def Pl.ck (s : Pl.Snap) (k : Nat) : List (List UInt8) := if k = 0 then s.c0 else if k = 1 then s.c1 else s.c2
/-- The names of the first k rows. -/
def Pl.upto (s : Pl.Snap) (k : Nat) : List (List UInt8) := ([s.c0, s.c1, s.c2].take k).flatten
theorem upto_zero (s : Pl.Snap) : Pl.upto s 0 = [] := rfl
theorem upto_succ (s : Pl.Snap) {k : Nat} (h : k < 3) : Pl.upto s (k + 1) = Pl.upto s k ++ Pl.ck s k := by
  obtain rfl | rfl | rfl : k = 0 ∨ k = 1 ∨ k = 2 := by omega
  all_goals simp [Pl.upto, Pl.ck]
theorem upto_all (s : Pl.Snap) : Pl.upto s 3 = Pl.all3 s := by simp [Pl.upto, Pl.all3]
theorem upto_len (s : Pl.Snap) (k : Nat) : (Pl.upto s k).length ≤ s.c0.length + s.c1.length + s.c2.length := by
  match k with
  | 0 => simp [Pl.upto]
  | 1 => simp [Pl.upto]; omega
  | 2 => simp [Pl.upto]
  | k + 3 => simp [Pl.upto]; omega
theorem ck_fit {s : Pl.Snap} (h : SnFit s) (k : Nat) : (Pl.ck s k).length ≤ 140737488355328 ∧ ∀ t ∈ Pl.ck s k, t.length ≤ 140737488355328 := by
  unfold Pl.ck
  split
  · exact ⟨h.l0, h.c0⟩
  · split
    · exact ⟨h.l1, h.c1⟩
    · exact ⟨h.l2, h.c2⟩
theorem three (s : Pl.Snap) (X : Cx) {k : Nat} (hk : k < 3) : ∃ A n c, (∀ w, (Instr.index 28 (.agg #[.slice X.A0 X.n0 X.k0, .slice X.A1 X.n1 X.k1, .slice X.A2 X.n2 X.k2]) (.int .i64 (k : Int))).run Tryd.prog w = .ok (.slice A n c) w) ∧ (∀ w, SnOk w s X → SlAt w 1 A n c (strs (Pl.ck s k))) := by
  obtain ⟨i0, i1, i2⟩ := idx3 X
  obtain rfl | rfl | rfl : k = 0 ∨ k = 1 ∨ k = 2 := by omega
  · exact ⟨_, _, _, i0, fun w h => h.s0⟩
  · exact ⟨_, _, _, i1, fun w h => h.s1⟩
  · exact ⟨_, _, _, i2, fun w h => h.s2⟩
def Pl.totN (s : Pl.Snap) : Nat := s.m.length + sumLen (Pl.all3 s)
theorem sumLen_append (l k : List (List UInt8)) : sumLen (l ++ k) = sumLen l + sumLen k := by
  induction l with
  | nil => simp [sumLen]
  | cons x l ih => simp [sumLen, ih]; omega
theorem namesR_len (l : List (List UInt8)) : (Pl.namesR l).length ≤ l.length := by
  have key : ∀ (l a : List (List UInt8)), Pl.Rise a → (l.foldl Pl.insL a).length ≤ a.length + l.length := by
    intro l
    induction l with
    | nil => intro a _; simp
    | cons x l ih =>
      intro a ha
      have h1 := ih (Pl.insL a x) (Pl.insL_rise ha x)
      have h2 := Pl.insL_len ha x
      simp only [List.foldl_cons, List.length_cons]; omega
  have := key l [] List.Pairwise.nil
  simpa [Pl.namesR] using this
/-- A slice of texts. -/
def OutR (l : List (List UInt8)) (v : Value) (w' : World) : Prop := ∃ A c, v = .slice A l.length c ∧ Rd w' 1 A l.length (strs l)
end Go.Proofs.YtadoplgmeoghmaaDoor
