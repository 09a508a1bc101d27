/- Plain Lean: Names of a shelf. No program in sight. -/
import Derived.Test.YtnapokalopcdkaaShOps2
namespace Go.Proofs.Ytnapokalopcdkaa.Pl
def hasPre (s p : List UInt8) : Bool := decide (p.length ≤ s.length) && (s.take p.length == p)
def selN (f : Int) (p : List UInt8) (o : Obj) : Bool := hasPre o.name p && (f != 3 || o.had)
def nms (l : List Obj) (f : Int) (p : List UInt8) : List (List UInt8) := (l.filter (selN f p)).map (·.name)
/-- What Names answers: the names, the error. -/
def namesR (l : List Obj) (f : Int) (p : List UInt8) : List (List UInt8) × Nat :=
  if f = 4 then ([], 17) else if f = 1 then ([], 0) else (nms l f p, 0)
theorem nms_step (l : List Obj) (f : Int) (p : List UInt8) (j : Nat) (h : j < l.length) : nms (l.take (j + 1)) f p = nms (l.take j) f p ++ (if selN f p l[j] then [l[j].name] else []) := by
  unfold nms
  rw [List.take_succ_eq_append_getElem h, List.filter_append, List.map_append]
  by_cases hs : selN f p l[j] = true
  · simp [hs]
  · simp [hs]
theorem nms_len (l : List Obj) (f : Int) (p : List UInt8) : (nms l f p).length ≤ l.length := by
  unfold nms; rw [List.length_map]; exact List.length_filter_le _ _
end Go.Proofs.Ytnapokalopcdkaa.Pl
