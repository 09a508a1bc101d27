/- Plain Lean: the policy of a text by the document's way, step by step. No program in sight. -/
import Derived.Test.YtmncgnmgdkdhaaaGreatDoorPolOf0
namespace Go.Proofs.YtmncgnmgdkdhaaaGreatDoor.Pl
open Go.RowKit
set_option linter.unusedVariables false
set_option linter.unusedSimpArgs false
def endD (s : List UInt8) (x y z t : Int) : Option Pol := if txP ⟨x, y, z, t⟩ = s ∧ s ≠ [] then some ⟨x, y, z, t⟩ else none
def from3 (s : List UInt8) (x y z : Int) (r : List UInt8) : Option Pol := match numD 121 r with | none => none | some (t, _) => endD s x y z t
def from2 (s : List UInt8) (x y : Int) (r : List UInt8) : Option Pol := match numD 109 r with | none => none | some (z, r1) => match blankD r1 with | none => none | some r2 => from3 s x y z r2
def from1 (s : List UInt8) (x : Int) (r : List UInt8) : Option Pol := match numD 119 r with | none => none | some (y, r1) => match blankD r1 with | none => none | some r2 => from2 s x y r2
def from0 (s : List UInt8) (r : List UInt8) : Option Pol := match numD 100 r with | none => none | some (x, r1) => match blankD r1 with | none => none | some r2 => from1 s x r2
theorem ofD_from (s : List UInt8) : ofD s = from0 s s := by
  unfold ofD from0
  cases numD 100 s with
  | none => rfl
  | some q1 =>
    obtain ⟨x, s1⟩ := q1
    dsimp only
    cases blankD s1 with
    | none => rfl
    | some s1 =>
      dsimp only
      unfold from1
      cases numD 119 s1 with
      | none => rfl
      | some q2 =>
        obtain ⟨y, s2⟩ := q2
        dsimp only
        cases blankD s2 with
        | none => rfl
        | some s2 =>
          dsimp only
          unfold from2
          cases numD 109 s2 with
          | none => rfl
          | some q3 =>
            obtain ⟨z, s3⟩ := q3
            dsimp only
            cases blankD s3 with
            | none => rfl
            | some s3 =>
              dsimp only
              unfold from3
              cases numD 121 s3 with
              | none => rfl
              | some q4 => rfl
/-- How far the document's way has come. -/
def DSt (s : List UInt8) (k : Nat) (ns : List Int) (r : List UInt8) : Prop :=
  match k, ns with
  | 0, [] => ofD s = from0 s r
  | 1, [x] => ofD s = from1 s x r
  | 2, [x, y] => ofD s = from2 s x y r
  | 3, [x, y, z] => ofD s = from3 s x y z r
  | 4, [x, y, z, t] => ofD s = endD s x y z t
  | _, _ => False
theorem DSt.zero (s : List UInt8) : DSt s 0 [] s := ofD_from s
theorem DSt.len {s : List UInt8} {k : Nat} {ns : List Int} {r : List UInt8} (h : DSt s k ns r) : ns.length = k := by
  unfold DSt at h
  split at h <;> first | rfl | exact h.elim
theorem DSt.bad {s : List UInt8} {k : Nat} {ns : List Int} {r : List UInt8} (h : DSt s k ns r) (hk : k < 4) (hn : numD (unL.getD k 0) r = none) : ofD s = none := by
  unfold DSt at h
  split at h
  · rw [h]; unfold from0; rw [show numD 100 r = none from hn]
  · rw [h]; unfold from1; rw [show numD 119 r = none from hn]
  · rw [h]; unfold from2; rw [show numD 109 r = none from hn]
  · rw [h]; unfold from3; rw [show numD 121 r = none from hn]
  · omega
  · exact h.elim
theorem DSt.bad2 {s : List UInt8} {k : Nat} {ns : List Int} {r r1 : List UInt8} {n : Int} (h : DSt s k ns r) (hk : k < 3) (hn : numD (unL.getD k 0) r = some (n, r1)) (hb : blankD r1 = none) : ofD s = none := by
  unfold DSt at h
  split at h
  · rw [h]; unfold from0; rw [show numD 100 r = _ from hn]; dsimp only; rw [hb]
  · rw [h]; unfold from1; rw [show numD 119 r = _ from hn]; dsimp only; rw [hb]
  · rw [h]; unfold from2; rw [show numD 109 r = _ from hn]; dsimp only; rw [hb]
  · omega
  · omega
  · exact h.elim
theorem DSt.next {s : List UInt8} {k : Nat} {ns : List Int} {r r1 r2 : List UInt8} {n : Int} (h : DSt s k ns r) (hk : k < 3) (hn : numD (unL.getD k 0) r = some (n, r1)) (hb : blankD r1 = some r2) : DSt s (k + 1) (ns ++ [n]) r2 := by
  unfold DSt at h
  split at h
  · show ofD s = _
    rw [h]; unfold from0; rw [show numD 100 r = _ from hn]; dsimp only; rw [hb]
  · show ofD s = _
    rw [h]; unfold from1; rw [show numD 119 r = _ from hn]; dsimp only; rw [hb]
  · show ofD s = _
    rw [h]; unfold from2; rw [show numD 109 r = _ from hn]; dsimp only; rw [hb]
  · omega
  · omega
  · exact h.elim
theorem DSt.last {s : List UInt8} {ns : List Int} {r r1 : List UInt8} {n : Int} (h : DSt s 3 ns r) (hn : numD (unL.getD 3 0) r = some (n, r1)) (r2 : List UInt8) : DSt s 4 (ns ++ [n]) r2 := by
  unfold DSt at h
  split at h
  · omega
  · omega
  · omega
  · show ofD s = _
    rw [h]; unfold from3; rw [show numD 121 r = _ from hn]
  · omega
  · exact h.elim
theorem DSt.all {s : List UInt8} {a b c d : Int} {r : List UInt8} (h : DSt s 4 [a, b, c, d] r) : ofD s = if txP ⟨a, b, c, d⟩ = s ∧ s ≠ [] then some ⟨a, b, c, d⟩ else none := h
theorem blankD_none {r : List UInt8} (h : r = [] ∨ ∃ c q, r = c :: q ∧ c ≠ 32) : blankD r = none := by
  rcases h with rfl | ⟨c, q, rfl, h⟩
  · rfl
  · unfold blankD; exact if_neg h
end Go.Proofs.YtmncgnmgdkdhaaaGreatDoor.Pl
