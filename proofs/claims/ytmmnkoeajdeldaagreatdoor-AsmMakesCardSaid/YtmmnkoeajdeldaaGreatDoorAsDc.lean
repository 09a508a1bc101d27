/- Plain Lean: the assembler in the document's way: tokens, lines, addresses. No program in sight. -/
import Derived.Test.YtmmnkoeajdeldaaGreatDoorAsPl
namespace Go.Proofs.YtmmnkoeajdeldaaGreatDoor.Pl
open Go.RowKit
open Go.Lib (itoa)
set_option linter.unusedVariables false
set_option linter.unusedSimpArgs false

/-- A token of the document: the sign of its kind, its text, its number, and whether that is too great. -/
structure Dt where
  k : Nat
  s : List UInt8
  n : Int
  big : Bool
def Dt.nil : Dt := ⟨0, [], 0, false⟩
def numF : List UInt8 → Int → Bool → Int × Bool
  | [], n, b => (n, b)
  | c :: r, n, b => numF r (10 * (if 99999999999 < n then 0 else n) + ((c.toNat : Int) - 48)) (b || decide (99999999999 < n))
def numD (l : List UInt8) : Dt :=
  if l.head? = some 45 then ⟨110, [], -(numF (l.drop 1) 0 false).1, (numF (l.drop 1) 0 false).2⟩ else ⟨110, [], (numF l 0 false).1, (numF l 0 false).2⟩
def tokD (l : List UInt8) : Option (Dt × Nat) :=
  match l with
  | [] => none
  | c :: r =>
    if c.toNat = 44 ∨ c.toNat = 58 ∨ c.toNat = 40 ∨ c.toNat = 41 then some (⟨c.toNat, [], 0, false⟩, 1)
    else if c.toNat = 34 then (quo r).map fun y => (⟨113, y.1, 0, false⟩, y.2 + 1)
    else if letB c then some (⟨119, l.take (spanN lodB l), 0, false⟩, spanN lodB l)
    else
      let sg := if c.toNat = 45 then 1 else 0
      if spanN digB (l.drop sg) = 0 then none
      else some (numD (l.take (sg + spanN digB (l.drop sg))), sg + spanN digB (l.drop sg))
def toksDF : Nat → List UInt8 → Option (List Dt)
  | 0, _ => some []
  | _ + 1, [] => some []
  | f + 1, c :: r =>
    if c.toNat = 35 then some []
    else if c.toNat = 32 ∨ c.toNat = 9 then toksDF f r
    else match tokD (c :: r) with
      | none => none
      | some (t, n) => (toksDF f ((c :: r).drop n)).map fun y => t :: y
def toksD (l : List UInt8) : Option (List Dt) := toksDF l.length l

/-- What a line is: 0 nothing, 1 a name, 2 an instruction, 3 two of them, 4 a word, 5 data, 6 a word of data, 7 a room; or an error. -/
structure It where
  kind : Nat
  name : List UInt8
  x : Ins
  n : Int
  s : List UInt8
  e : Nat
def Ins.nil : Ins := ⟨0, 0, 0, 0, 0⟩
def It.nil : It := ⟨0, [], Ins.nil, 0, [], 0⟩
def bad (e : Nat) : It := ⟨0, [], Ins.nil, 0, [], e⟩
def regD (t : Dt) : Nat :=
  if t.k ≠ 119 then 16 else match t.s with
  | [a, b] => if a.toNat = 114 ∧ digB b = true then b.toNat - 48 else 16
  | [a, b, c] => if a.toNat = 114 ∧ b.toNat = 49 ∧ digB c = true ∧ c.toNat ≤ 53 then 10 + c.toNat - 48 else 16
  | _ => 16
def formN (op : Nat) : Nat := if 1 ≤ op ∧ op ≤ 13 then 1 else if 14 ≤ op ∧ op ≤ 18 ∨ 25 ≤ op ∧ op ≤ 28 then 2 else if op = 19 ∨ op = 29 then 3 else if 20 ≤ op ∧ op ≤ 24 ∨ op = 30 then 4 else if op = 31 then 5 else 0
/-- What an instruction of a form looks like. -/
def shapeD (f k : Nat) : List Nat := if f = 1 then [119, 119, 44, 119, 44, 119] else if f = 2 then [119, 119, 44, 119, 44, k] else if f = 3 then [119, 119, 44, k] else if f = 4 then [119, 119, 44, k, 40, 119, 41] else [119, k]
def dk (l : List Dt) : List Nat := l.map Dt.k
def dg (l : List Dt) (i : Nat) : Dt := l.getD i Dt.nil
def regA (l : List Dt) (f : Nat) : Nat := if f = 5 then 0 else regD (dg l 1)
def regB (l : List Dt) (f : Nat) : Nat := if f = 1 ∨ f = 2 then regD (dg l 3) else if f = 4 then regD (dg l 5) else 0
def regC (l : List Dt) (f : Nat) : Nat := if f = 1 then regD (dg l 5) else 0
def atD (f : Nat) : Nat := if f = 1 ∨ f = 2 then 5 else if f = 5 then 1 else 3
def insD (l : List Dt) (op : Nat) : It :=
  if dk l ≠ shapeD (formN op) 110 ∧ dk l ≠ shapeD (formN op) 119 then bad 3
  else if 15 < regA l (formN op) ∨ 15 < regB l (formN op) ∨ 15 < regC l (formN op) then bad 3
  else if formN op = 1 then ⟨2, [], ⟨op, regA l (formN op), regB l (formN op), regC l (formN op), 0⟩, 0, [], 0⟩
  else if (dg l (atD (formN op))).k = 119 then ⟨2, (dg l (atD (formN op))).s, ⟨op, regA l (formN op), regB l (formN op), regC l (formN op), 0⟩, 0, [], 0⟩
  else if (dg l (atD (formN op))).big = true ∨ (dg l (atD (formN op))).n < -2147483648 ∨ 2147483647 < (dg l (atD (formN op))).n then bad 2
  else if encE ⟨op, regA l (formN op), regB l (formN op), regC l (formN op), (dg l (atD (formN op))).n⟩ ≠ 0 then bad (encE ⟨op, regA l (formN op), regB l (formN op), regC l (formN op), (dg l (atD (formN op))).n⟩)
  else ⟨2, [], ⟨op, regA l (formN op), regB l (formN op), regC l (formN op), (dg l (atD (formN op))).n⟩, 0, [], 0⟩
def fits32 (t : Dt) : Bool := !t.big && decide (-2147483648 ≤ t.n ∧ t.n ≤ 4294967295)
def pairD (l : List Dt) : It :=
  if (dg l 0).s = wLi ∧ dk l ≠ [119, 119, 44, 110] ∨ (dg l 0).s = wLa ∧ dk l ≠ [119, 119, 44, 119] ∨ 15 < regD (dg l 1) then bad 3
  else if (dg l 0).s = wLi ∧ fits32 (dg l 3) = false then bad 2
  else ⟨3, (dg l 3).s, ⟨0, regD (dg l 1), 0, 0, 0⟩, (dg l 3).n, [], 0⟩
def itemD (l : List Dt) : It :=
  if l.length = 0 then It.nil
  else if (dg l 0).k ≠ 119 then bad 3
  else if dk l = [119, 58] then ⟨1, (dg l 0).s, Ins.nil, 0, [], 0⟩
  else if (dg l 0).s = wLi ∨ (dg l 0).s = wLa then pairD l
  else if (dg l 0).s = wRaw then
    if dk l ≠ [119, 110] then bad 3
    else if (dg l 1).big = true ∨ (dg l 1).n < 0 ∨ 4294967295 < (dg l 1).n then bad 2
    else ⟨4, [], Ins.nil, (dg l 1).n, [], 0⟩
  else if (dg l 0).s = wText then
    if dk l ≠ [119, 119, 113] then bad 3 else ⟨5, (dg l 1).s, Ins.nil, 0, (dg l 2).s, 0⟩
  else if (dg l 0).s = wWord then
    if dk l ≠ [119, 119, 110] then bad 3
    else if fits32 (dg l 2) = false then bad 2
    else ⟨6, (dg l 1).s, Ins.nil, (dg l 2).n, [], 0⟩
  else if (dg l 0).s = wRoom then
    if dk l ≠ [119, 119, 110] then bad 3
    else if (dg l 2).big = true ∨ (dg l 2).n < 0 ∨ 65536 < (dg l 2).n then bad 2
    else ⟨7, (dg l 1).s, Ins.nil, (dg l 2).n, [], 0⟩
  else match opN (dg l 0).s with
    | none => bad 3
    | some op => insD l op
def It.gives (x : It) : Bool := x.kind == 1 || decide (5 ≤ x.kind)
/-- The lines of a text. -/
def linesDF : List UInt8 → List UInt8 → List (List UInt8)
  | cur, [] => if cur = [] then [] else [cur]
  | cur, c :: r => if c.toNat = 10 then cur :: linesDF [] r else linesDF (cur ++ [c]) r
def linesD (s : List UInt8) : List (List UInt8) := linesDF [] s
def twice (x : It) (l : List It) : Bool := l.any fun y => x.gives && y.gives && (y.name == x.name)
/-- All lines, from number i on, behind those that were read: else the error, and its line. -/
def itemsF : Nat → List It → List (List UInt8) → Except (Nat × Nat) (List It)
  | _, out, [] => .ok out
  | i, out, s :: r =>
    match toksD s with
    | none => .error (3, i + 1)
    | some t =>
      if (itemD t).e ≠ 0 then .error ((itemD t).e, i + 1)
      else if twice (itemD t) out then .error (8, i + 1)
      else itemsF (i + 1) (out ++ [itemD t]) r
def wordsOfD (x : It) : Nat := if x.kind = 2 ∨ x.kind = 4 then 1 else if x.kind = 3 then 2 else 0
def sumW : List It → Nat
  | [] => 0
  | x :: r => wordsOfD x + sumW r
def baseD (l : List It) : Nat := up (4 * sumW l) 128
/-- All data, and where each line's begin. -/
def dataF : List It → List UInt8 → List Nat → List UInt8 × List Nat
  | [], S, A => (S, A)
  | x :: r, S, A =>
    let S1 := if x.kind = 6 then S ++ List.replicate (up S.length 4 - S.length) 0 else S
    dataF r (S1 ++ (if x.kind = 5 then x.s else if x.kind = 6 then putB (u32N x.n) 4 else [])) (A ++ [S1.length])
/-- Where the rooms begin, and end: lines from number i on. -/
def roomsF : List It → Nat → Nat → List Nat → List Nat × Nat
  | [], _, e, A => (A, e)
  | x :: r, i, e, A => if x.kind = 7 then roomsF r (i + 1) (up e 4 + x.n.toNat) (A.set i (up e 4)) else roomsF r (i + 1) e A
structure Da where
  s : List UInt8
  a : List Nat
  e : Nat
def dataD (l : List It) : Da :=
  let y := dataF l [] []
  let z := roomsF l 0 y.1.length y.2
  ⟨y.1, z.1, z.2⟩
/-- The address of a name, if one gives it: lines from number i on, at an address. -/
def addrF (all : List It) (name : List UInt8) : List It → Nat → Nat → Option Nat
  | [], _, _ => none
  | x :: r, i, at' => if x.gives && (x.name == name) then (if x.kind = 1 then some at' else some (baseD all + (dataD all).a.getD i 0)) else addrF all name r (i + 1) (at' + 4 * wordsOfD x)
def addrD (l : List It) (name : List UInt8) : Option Nat := addrF l name l 0 0
/-- An instruction with a name's address in place of its number. -/
def withN (x : It) (n at' : Nat) : Except Nat Ins :=
  if x.name = [] then .ok x.x
  else if 25 ≤ x.x.op ∧ x.x.op ≤ 29 then
    if n % 4 ≠ 0 then .error 2 else .ok { x.x with imm := (((n : Int) - (at' : Int) - 4).tdiv 4) }
  else .ok { x.x with imm := (n : Int) }
/-- The words of a line, at an address. -/
def wordsD (l : List It) (x : It) (at' : Nat) : Except Nat (List Nat) :=
  match (if (x.kind = 2 ∨ x.kind = 3) ∧ x.name ≠ [] then addrD l x.name else some 0) with
  | none => .error 7
  | some n =>
    if x.kind = 2 then
      match withN x n at' with
      | .error e => .error e
      | .ok y => if encE y = 0 then .ok [wordOf y] else .error (encE y)
    else if x.kind = 3 then
      let u := if x.name = [] then u32N x.n else n
      .ok [encW ⟨19, x.x.a, 0, 0, (u / 65536 : Nat)⟩, encW ⟨16, x.x.a, x.x.a, 0, (u % 65536 : Nat)⟩]
    else if x.kind = 4 then .ok [u32N x.n]
    else .ok []
/-- The words of all lines, from number i on, behind those that are there, and where the program begins. -/
def textF (all : List It) : Nat → List Nat → Nat → List It → Except (Nat × Nat) (List Nat × Nat)
  | _, t, en, [] => .ok (t, en)
  | i, t, en, x :: r =>
    match wordsD all x (4 * t.length) with
    | .error e => .error (e, i + 1)
    | .ok w => textF all (i + 1) (t ++ w) (if x.kind = 1 ∧ x.name = wStart then 4 * t.length else en) r
def mkD (text : List UInt8) : Except (Nat × Nat) Exe :=
  if 65536 < text.length then .error (6, 0)
  else if 400 < (linesD text).length then .error (6, 0)
  else match itemsF 0 [] (linesD text) with
    | .error e => .error e
    | .ok l => match textF l 0 [] 0 l with
      | .error e => .error e
      | .ok (t, en) => .ok ⟨t, (dataD l).s, ((dataD l).e : Int) - ((dataD l).s.length : Int), en⟩
end Go.Proofs.YtmmnkoeajdeldaaGreatDoor.Pl
