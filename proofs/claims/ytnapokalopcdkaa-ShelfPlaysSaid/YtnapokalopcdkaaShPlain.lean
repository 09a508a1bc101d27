/- Plain Lean: a shelf. No program in sight. -/
import Derived.WalkKit
namespace Go.Proofs.Ytnapokalopcdkaa.Pl

structure Obj where
  name : List UInt8
  data : List UInt8
  was : List UInt8
  had : Bool
structure Shelf where
  objs : List Obj
  fates : List Int

def okName (s : List UInt8) : Bool := decide (1 ≤ s.length ∧ s.length ≤ 100)
/-- Why one object may not be, with the name ahead of it. -/
def objE (prev : Option (List UInt8)) (o : Obj) : Nat :=
  if okName o.name = false then 7
  else if prev.elim false (fun p => o.name == p) then 8
  else if prev.elim false (fun p => Op.bytesLess o.name p) then 2
  else if 65536 < o.data.length ∨ 65536 < o.was.length then 6
  else if o.had = false ∧ o.was ≠ [] then 3
  else 0
def prevOf (l : List Obj) (i : Nat) : Option (List UInt8) := if i = 0 then none else (l[i - 1]?).map (·.name)
/-- The first error from the i-th object on. -/
def chkFrom (l : List Obj) : Nat → Nat → Nat
  | 0, _ => 0
  | k + 1, i => match l[i]? with
    | none => 0
    | some o => if objE (prevOf l i) o = 0 then chkFrom l k (i + 1) else objE (prevOf l i) o
def chk (l : List Obj) : Nat := chkFrom l l.length 0
theorem chkFrom_end (l : List Obj) (i : Nat) (h : l.length ≤ i) : ∀ k, chkFrom l k i = 0
  | 0 => rfl
  | k + 1 => by unfold chkFrom; rw [List.getElem?_eq_none h]
theorem chkFrom_step (l : List Obj) (k i : Nat) (h : i < l.length) : chkFrom l (k + 1) i = if objE (prevOf l i) l[i] = 0 then chkFrom l k (i + 1) else objE (prevOf l i) l[i] := by
  show (match l[i]? with | none => 0 | some o => _) = _
  rw [List.getElem?_eq_getElem h]
/-- Bytes of which the last one's lowest bit is turned. -/
def flipB (c : UInt8) : UInt8 := c ^^^ 1
def flip (b : List UInt8) : List UInt8 := match b.getLast? with
  | none => []
  | some c => b.dropLast ++ [flipB c]
section
variable {prev : Option (List UInt8)} {nm dt ws : List UInt8} {hd : Bool} (h0 : okName nm = true) (h1 : prev.elim false (fun p => nm == p) = false) (h2 : prev.elim false (fun p => Op.bytesLess nm p) = false)
include h0 h1 h2
theorem objE_6 (h : 65536 < dt.length ∨ 65536 < ws.length) : objE prev ⟨nm, dt, ws, hd⟩ = 6 := by simp [objE, h0, h1, h2, h]
theorem objE_3 (h : dt.length ≤ 65536 ∧ ws.length ≤ 65536) (h3 : hd = false) (h4 : ws ≠ []) : objE prev ⟨nm, dt, ws, hd⟩ = 3 := by
  have : ¬ (65536 < dt.length ∨ 65536 < ws.length) := by omega
  simp [objE, h0, h1, h2, this, h3, h4]
theorem objE_0 (h : dt.length ≤ 65536 ∧ ws.length ≤ 65536) (h3 : hd = true ∨ ws = []) : objE prev ⟨nm, dt, ws, hd⟩ = 0 := by
  have : ¬ (65536 < dt.length ∨ 65536 < ws.length) := by omega
  have h4 : ¬ (hd = false ∧ ws ≠ []) := by rintro ⟨a, b⟩; rcases h3 with h | h <;> simp_all
  simp only [objE, h0, h1, h2, this, h4, if_false]; simp
end
theorem objE_8 {prev : Option (List UInt8)} {nm dt ws : List UInt8} {hd : Bool} (h0 : okName nm = true) (h1 : prev.elim false (fun p => nm == p) = true) : objE prev ⟨nm, dt, ws, hd⟩ = 8 := by simp [objE, h0, h1]
theorem objE_2 {prev : Option (List UInt8)} {nm dt ws : List UInt8} {hd : Bool} (h0 : okName nm = true) (h1 : prev.elim false (fun p => nm == p) = false) (h2 : prev.elim false (fun p => Op.bytesLess nm p) = true) : objE prev ⟨nm, dt, ws, hd⟩ = 2 := by simp [objE, h0, h1, h2]
theorem ret_obj {a x E k : Nat} (h : (if x = 0 then a else x) = E) (hx : x = k) (hk : k ≠ 0) : E = k := by subst hx; rw [if_neg hk] at h; exact h.symm
end Go.Proofs.Ytnapokalopcdkaa.Pl
