/- Plain Lean: the assembler, in the program's own way: tokens, lines, addresses. No program in sight. -/
import Derived.Test.YtmmnkoeajdeldaaGreatDoorIsaPlain
import Derived.Test.YtmmnkoeajdeldaaGreatDoorExePlain
import Derived.Lib.Split
namespace Go.Proofs.YtmmnkoeajdeldaaGreatDoor.Pl
open Go.RowKit
open Go.Lib (itoa)
set_option linter.unusedVariables false
set_option linter.unusedSimpArgs false

/-- A token: its kind (0 a word, 1 a number, 2 a comma, 3 a colon, 4 opens, 5 closes, 6 a quote), its signs, its number (the greatest or the least if it is too great). -/
structure Tk where
  k : Nat
  s : List UInt8
  n : Int
def digB (c : UInt8) : Bool := decide (48 ≤ c.toNat ∧ c.toNat ≤ 57)
def letB (c : UInt8) : Bool := decide (97 ≤ c.toNat ∧ c.toNat ≤ 122 ∨ 65 ≤ c.toNat ∧ c.toNat ≤ 90 ∨ c.toNat = 95)
def lodB (c : UInt8) : Bool := letB c || digB c
/-- How many signs, from the first on, are so. -/
def spanN (p : UInt8 → Bool) : List UInt8 → Nat
  | [] => 0
  | c :: r => if p c then spanN p r + 1 else 0
def hexN (c : UInt8) : Option Nat := if digB c then some (c.toNat - 48) else if 97 ≤ c.toNat ∧ c.toNat ≤ 102 then some (c.toNat - 87) else none
/-- The kind of a sign that is a token alone. -/
def markN (c : UInt8) : Option Nat := if c.toNat = 44 then some 2 else if c.toNat = 58 then some 3 else if c.toNat = 40 then some 4 else if c.toNat = 41 then some 5 else none
/-- What the signs behind a backslash are, and how many. -/
def esc (l : List UInt8) : Option (UInt8 × Nat) :=
  match l with
  | [] => none
  | c :: r =>
    if c.toNat = 34 ∨ c.toNat = 92 then some (c, 1) else if c.toNat = 110 then some (10, 1)
    else if c.toNat = 120 then
      match r with
      | a :: b :: _ => match hexN a, hexN b with
        | some x, some y => some (UInt8.ofNat (16 * x + y), 3)
        | _, _ => none
      | _ => none
    else none
/-- A quote's bytes, behind the sign that opens it, and how many signs with the one that closes it. -/
def quoF : Nat → List UInt8 → Option (List UInt8 × Nat)
  | 0, _ => none
  | _ + 1, [] => none
  | f + 1, c :: r =>
    if c.toNat = 34 then some ([], 1)
    else if c.toNat = 92 then
      match esc r with
      | none => none
      | some (x, n) => (quoF f (r.drop n)).map fun y => (x :: y.1, 1 + n + y.2)
    else if 32 ≤ c.toNat ∧ c.toNat ≤ 126 then (quoF f r).map fun y => (c :: y.1, 1 + y.2)
    else none
def quo (l : List UInt8) : Option (List UInt8 × Nat) := quoF l.length l
theorem esc_pos {l : List UInt8} {x : UInt8} {n : Nat} (h : esc l = some (x, n)) : 1 ≤ n ∧ n ≤ l.length := by
  cases l with
  | nil => cases h
  | cons c r =>
    simp only [esc] at h
    split at h
    · cases h; simp
    split at h
    · cases h; simp
    split at h
    · split at h
      · split at h
        · cases h; simp
        · cases h
      · cases h
    · cases h
theorem quoF_fuel : ∀ (f g : Nat) (l : List UInt8), l.length ≤ f → l.length ≤ g → quoF f l = quoF g l
  | 0, 0, l, _, _ => rfl
  | 0, g + 1, l, h, _ => by have : l = [] := List.length_eq_zero_iff.1 (by omega); subst this; rfl
  | f + 1, 0, l, _, h => by have : l = [] := List.length_eq_zero_iff.1 (by omega); subst this; rfl
  | f + 1, g + 1, [], _, _ => rfl
  | f + 1, g + 1, c :: r, hf, hg => by
    rw [List.length_cons] at hf hg
    simp only [quoF]
    rcases he : esc r with _ | ⟨x, n⟩
    · simp only
      rw [quoF_fuel f g r (by omega) (by omega)]
    · have := esc_pos he
      simp only
      rw [quoF_fuel f g r (by omega) (by omega), quoF_fuel f g (r.drop n) (by simp; omega) (by simp; omega)]
theorem quo_nil : quo [] = none := rfl
theorem quo_cons (c : UInt8) (r : List UInt8) : quo (c :: r) = if c.toNat = 34 then some ([], 1)
    else if c.toNat = 92 then
      match esc r with
      | none => none
      | some (x, n) => (quo (r.drop n)).map fun y => (x :: y.1, 1 + n + y.2)
    else if 32 ≤ c.toNat ∧ c.toNat ≤ 126 then (quo r).map fun y => (c :: y.1, 1 + y.2)
    else none := by
  simp only [quo, List.length_cons, quoF]
  rcases he : esc r with _ | ⟨x, n⟩
  · rfl
  · simp only
    rw [quoF_fuel r.length (r.drop n).length (r.drop n) (by simp) (by simp)]
theorem quo_le : ∀ (f : Nat) (l : List UInt8) (b : List UInt8) (n : Nat), quoF f l = some (b, n) → 1 ≤ n ∧ n ≤ l.length ∧ b.length < n
  | 0, l, b, n, h => by cases h
  | f + 1, [], b, n, h => by cases h
  | f + 1, c :: r, b, n, h => by
    simp only [quoF] at h
    split at h
    · cases h; simp
    split at h
    · rcases he : esc r with _ | ⟨x, m⟩
      · rw [he] at h; cases h
      · rw [he] at h
        simp only [Option.map_eq_some_iff] at h
        obtain ⟨⟨b', n'⟩, h1, h2⟩ := h
        have := quo_le f _ _ _ h1
        have hm := esc_pos he
        cases h2
        simp at this ⊢
        omega
    split at h
    · simp only [Option.map_eq_some_iff] at h
      obtain ⟨⟨b', n'⟩, h1, h2⟩ := h
      have := quo_le f _ _ _ h1
      cases h2
      simp
      omega
    · cases h
/-- The number of a text of digits. -/
def numT (s : List UInt8) : Int :=
  match Lib.parseIntB 64 s with
  | .ok v => v
  | .range => Lib.intSat 64 s
  | .syntax => 0
/-- The token at the head, and how many signs it has. -/
def tokN (l : List UInt8) : Option (Tk × Nat) :=
  match l with
  | [] => none
  | c :: r =>
    match markN c with
    | some k => some (⟨k, [], 0⟩, 1)
    | none =>
      if letB c then some (⟨0, l.take (spanN lodB l), 0⟩, spanN lodB l)
      else if c.toNat = 34 then (quo r).map fun y => (⟨6, y.1, 0⟩, y.2 + 1)
      else
        let sg := if c.toNat = 45 then 1 else 0
        if spanN digB (l.drop sg) = 0 then none
        else some (⟨1, [], numT (l.take (sg + spanN digB (l.drop sg)))⟩, sg + spanN digB (l.drop sg))
theorem span_le (p : UInt8 → Bool) : ∀ l : List UInt8, spanN p l ≤ l.length
  | [] => Nat.le_refl _
  | c :: r => by
    have := span_le p r
    simp only [spanN, List.length_cons]
    split <;> omega
theorem tok_pos {l : List UInt8} {t : Tk} {n : Nat} (h : tokN l = some (t, n)) : 1 ≤ n ∧ n ≤ l.length := by
  cases l with
  | nil => cases h
  | cons c r =>
    simp only [tokN] at h
    split at h
    · cases h; simp
    split at h
    · next hl =>
      cases h
      have := span_le lodB (c :: r)
      refine ⟨?_, this⟩
      simp [spanN, lodB, hl]
    split at h
    · simp only [Option.map_eq_some_iff] at h
      obtain ⟨⟨b', n'⟩, h1, h2⟩ := h
      have := quo_le _ _ _ _ h1
      cases h2
      simp
      omega
    · have hs : (if c.toNat = 45 then 1 else 0) ≤ 1 := by split <;> omega
      generalize (if c.toNat = 45 then 1 else 0) = sg at h hs
      split at h
      · cases h
      · next hd =>
        cases h
        have := span_le digB ((c :: r).drop sg)
        simp only [List.length_drop, List.length_cons] at this ⊢
        omega
def toksF : Nat → List UInt8 → Option (List Tk)
  | 0, _ => some []
  | _ + 1, [] => some []
  | f + 1, c :: r =>
    if c.toNat = 35 then some []
    else if c.toNat = 32 ∨ c.toNat = 9 then toksF f r
    else match tokN (c :: r) with
      | none => none
      | some (t, n) => (toksF f ((c :: r).drop n)).map fun y => t :: y
/-- A line's tokens. -/
def toks (l : List UInt8) : Option (List Tk) := toksF l.length l
theorem toksF_fuel : ∀ (f g : Nat) (l : List UInt8), l.length ≤ f → l.length ≤ g → toksF f l = toksF g l
  | 0, 0, l, _, _ => rfl
  | 0, g + 1, l, h, _ => by have : l = [] := List.length_eq_zero_iff.1 (by omega); subst this; rfl
  | f + 1, 0, l, _, h => by have : l = [] := List.length_eq_zero_iff.1 (by omega); subst this; rfl
  | f + 1, g + 1, [], _, _ => rfl
  | f + 1, g + 1, c :: r, hf, hg => by
    rw [List.length_cons] at hf hg
    simp only [toksF]
    rcases he : tokN (c :: r) with _ | ⟨x, n⟩
    · simp only
      rw [toksF_fuel f g r (by omega) (by omega)]
    · have := tok_pos he
      simp only
      rw [toksF_fuel f g r (by omega) (by omega), toksF_fuel f g ((c :: r).drop n) (by simp; omega) (by simp; omega)]
theorem toks_nil : toks [] = some [] := rfl
theorem toks_cons (c : UInt8) (r : List UInt8) : toks (c :: r) = if c.toNat = 35 then some []
    else if c.toNat = 32 ∨ c.toNat = 9 then toks r
    else match tokN (c :: r) with
      | none => none
      | some (t, n) => (toks ((c :: r).drop n)).map fun y => t :: y := by
  simp only [toks, List.length_cons, toksF]
  rcases he : tokN (c :: r) with _ | ⟨x, n⟩
  · rfl
  · have := tok_pos he
    simp only
    rw [toksF_fuel r.length ((c :: r).drop n).length ((c :: r).drop n) (by simp; omega) (by simp)]

/-- An instruction, or a word in place of one; with a name, as long as its number isn't known (way: 0 whole, 1 upper, 2 lower, 3 away). -/
structure Pc where
  line : Nat
  x : Ins
  raw : Bool
  w : Nat
  named : Bool
  nm : List UInt8
  way : Nat
/-- What was taken in: the names with what they are one of (0 text, 1 data, 2 room) and where. -/
structure St where
  pcs : List Pc
  data : List UInt8
  rooms : List Nat
  names : List (List UInt8 × Nat × Nat)
def St.nil : St := ⟨[], [], [], []⟩
def wantP (k : Nat) : List Tk → Except Nat (Tk × List Tk)
  | [] => .error 3
  | t :: r => if t.k = k then .ok (t, r) else .error 3
def valP : List Tk → Except Nat (Tk × List Tk)
  | [] => .error 3
  | t :: r => if t.k = 0 then .ok (t, r) else wantP 1 (t :: r)
/-- The register of a word. -/
def regF (s : List UInt8) : Nat → Nat → Option Nat
  | 0, _ => none
  | f + 1, i => if s = 114 :: itoa i then some i else regF s f (i + 1)
def regN (s : List UInt8) : Option Nat := regF s 16 0
def regP (l : List Tk) : Except Nat (Nat × List Tk) := do
  let (t, r) ← wantP 0 l
  match regN t.s with
  | some i => .ok (i, r)
  | none => .error 3
def endP (l : List Tk) : Except Nat Unit := if l.length = 0 then .ok () else .error 3
def inP (n lo hi : Int) : Except Nat Unit := if n < lo ∨ hi < n then .error 2 else .ok ()
def lookN (s : List UInt8) : List (List UInt8 × Nat × Nat) → Option (Nat × Nat)
  | [] => none
  | (a, v) :: r => if a = s then some v else lookN s r
def nameP (s : List UInt8) (of at' : Nat) (S : St) : Except Nat St := if (lookN s S.names).isSome then .error 8 else .ok { S with names := S.names ++ [(s, of, at')] }
def addP (p : Pc) (S : St) : St := { S with pcs := S.pcs ++ [p] }
def u32N (n : Int) : Nat := (n % 4294967296).toNat
def pcI (ln : Nat) (x : Ins) : Pc := ⟨ln, x, false, 0, false, [], 0⟩
def pcN (ln : Nat) (x : Ins) (s : List UInt8) (way : Nat) : Pc := ⟨ln, x, false, 0, true, s, way⟩
def liP (ln : Nat) (l : List Tk) (S : St) : Except Nat St := do
  let (r, l) ← regP l
  let (_, l) ← wantP 2 l
  let (t, l) ← wantP 1 l
  endP l
  inP t.n (-2147483648) 4294967295
  .ok (addP (pcI ln ⟨16, r, r, 0, (u32N t.n % 65536 : Nat)⟩) (addP (pcI ln ⟨19, r, 0, 0, (u32N t.n / 65536 : Nat)⟩) S))
def laP (ln : Nat) (l : List Tk) (S : St) : Except Nat St := do
  let (r, l) ← regP l
  let (_, l) ← wantP 2 l
  let (t, l) ← wantP 0 l
  endP l
  .ok (addP (pcN ln ⟨16, r, r, 0, 0⟩ t.s 2) (addP (pcN ln ⟨19, r, 0, 0, 0⟩ t.s 1) S))
def rawP (ln : Nat) (l : List Tk) (S : St) : Except Nat St := do
  let (t, l) ← wantP 1 l
  endP l
  inP t.n 0 4294967295
  .ok (addP ⟨ln, ⟨0, 0, 0, 0, 0⟩, true, u32N t.n, false, [], 0⟩ S)
def textP (l : List Tk) (S : St) : Except Nat St := do
  let (s, l) ← wantP 0 l
  let (b, l) ← wantP 6 l
  endP l
  let S1 ← nameP s.s 1 S.data.length S
  .ok { S1 with data := S.data ++ b.s }
def up (n k : Nat) : Nat := (n + k - 1) / k * k
def wordP4 (l : List Tk) (S : St) : Except Nat St := do
  let (s, l) ← wantP 0 l
  let (t, l) ← wantP 1 l
  endP l
  inP t.n (-2147483648) 4294967295
  let S1 ← nameP s.s 1 (up S.data.length 4) S
  .ok { S1 with data := S.data ++ List.replicate (up S.data.length 4 - S.data.length) 0 ++ putB (u32N t.n) 4 }
def roomP (l : List Tk) (S : St) : Except Nat St := do
  let (s, l) ← wantP 0 l
  let (t, l) ← wantP 1 l
  endP l
  inP t.n 0 65536
  let S1 ← nameP s.s 2 S.rooms.length S
  .ok { S1 with rooms := S.rooms ++ [t.n.toNat] }
/-- A number, as that of an instruction. -/
def fitP (x : Ins) (n : Int) : Except Nat Int := do
  inP n (-2147483648) 2147483647
  if encE { x with imm := n } = 0 then .ok n else .error (encE { x with imm := n })
/-- What stands behind an operation: the instruction without its number, and the number's token. -/
def bodyP (op : Nat) (l : List Tk) : Except Nat (Ins × Tk × List Tk) := do
  let (a, l) ← if op = 31 then .ok (0, l) else do
    let (a, l) ← regP l
    let (_, l) ← wantP 2 l
    .ok (a, l)
  if op ≤ 13 then do
    let (b, l) ← regP l
    let (_, l) ← wantP 2 l
    let (c, l) ← regP l
    .ok (⟨op, a, b, c, 0⟩, ⟨1, [], 0⟩, l)
  else if 20 ≤ op ∧ op ≤ 24 ∨ op = 30 then do
    let (t, l) ← valP l
    let (_, l) ← wantP 4 l
    let (b, l) ← regP l
    let (_, l) ← wantP 5 l
    .ok (⟨op, a, b, 0, 0⟩, t, l)
  else if op = 19 ∨ op = 29 ∨ op = 31 then do
    let (t, l) ← valP l
    .ok (⟨op, a, 0, 0, 0⟩, t, l)
  else do
    let (b, l) ← regP l
    let (_, l) ← wantP 2 l
    let (t, l) ← valP l
    .ok (⟨op, a, b, 0, 0⟩, t, l)
def insP (ln op : Nat) (l : List Tk) (S : St) : Except Nat St := do
  let (x, t, l) ← bodyP op l
  endP l
  if t.k = 0 then .ok (addP (pcN ln x t.s (if 25 ≤ op ∧ op ≤ 29 then 3 else 0)) S)
  else do
    let n ← fitP x t.n
    .ok (addP (pcI ln { x with imm := n }) S)
/-- The operations' names, from 1 on. -/
def opNs : List (List UInt8) := [[97, 100, 100], [115, 117, 98], [109, 117, 108], [100, 105, 118], [114, 101, 109], [97, 110, 100], [111, 114], [120, 111, 114], [115, 104, 108], [115, 104, 114], [115, 97, 114], [115, 108, 116], [115, 108, 116, 117], [97, 100, 100, 105], [97, 110, 100, 105], [111, 114, 105], [120, 111, 114, 105], [115, 108, 116, 105], [108, 117, 105], [108, 119], [108, 98], [108, 98, 117], [115, 119], [115, 98], [98, 101, 113], [98, 110, 101], [98, 108, 116], [98, 108, 116, 117], [106, 97, 108], [106, 97, 108, 114], [115, 121, 115]]
def opF (s : List UInt8) : List (List UInt8) → Nat → Option Nat
  | [], _ => none
  | a :: r, i => if a = s then some i else opF s r (i + 1)
def opN (s : List UInt8) : Option Nat := opF s opNs 1
def wLi : List UInt8 := [108, 105]
def wLa : List UInt8 := [108, 97]
def wRaw : List UInt8 := [114, 97, 119]
def wText : List UInt8 := [116, 101, 120, 116]
def wWord : List UInt8 := [119, 111, 114, 100]
def wRoom : List UInt8 := [114, 111, 111, 109]
def wStart : List UInt8 := [115, 116, 97, 114, 116]
/-- A line that isn't empty and gives no name to an instruction. -/
def lineP (ln : Nat) (l : List Tk) (S : St) : Except Nat St := do
  let (f, r) ← wantP 0 l
  if f.s = wLi then liP ln r S
  else if f.s = wLa then laP ln r S
  else if f.s = wRaw then rawP ln r S
  else if f.s = wText then textP r S
  else if f.s = wWord then wordP4 r S
  else if f.s = wRoom then roomP r S
  else match opN f.s with
    | none => .error 3
    | some op => insP ln op r S
/-- A line's tokens are taken in. -/
def takeP (ln : Nat) (l : List Tk) (S : St) : Except Nat St :=
  match l with
  | [] => .ok S
  | [a, b] => if a.k = 0 ∧ b.k = 3 then nameP a.s 0 S.pcs.length S else lineP ln l S
  | l => lineP ln l S
/-- All lines, the first of which has the number ln + 1: else the error and its line. -/
def linesP : Nat → List (List UInt8) → St → Except (Nat × Nat) St
  | _, [], S => .ok S
  | ln, s :: r, S =>
    match toks s with
    | none => .error (3, ln + 1)
    | some l => match takeP (ln + 1) l S with
      | .error e => .error (e, ln + 1)
      | .ok S1 => linesP (ln + 1) r S1
def dataAt (S : St) : Nat := up (4 * S.pcs.length) 128
/-- Where rooms begin, the first of them behind e; and where all end. -/
def startsP : Nat → List Nat → List Nat × Nat
  | e, [] => ([], e)
  | e, n :: r => let y := startsP (up e 4 + n) r; (up e 4 :: y.1, y.2)
def behindP (S : St) : Nat := dataAt S + S.data.length
def roomN (S : St) : Nat := if S.names.any (fun p => p.2.1 == 2) then (startsP (behindP S) S.rooms).2 - behindP S else 0
def addrP (S : St) (v : Nat × Nat) : Nat := if v.1 = 0 then 4 * v.2 else if v.1 = 1 then dataAt S + v.2 else (startsP (behindP S) S.rooms).1.getD v.2 0
/-- What a name stands for in the instruction of number i. -/
def standsP (S : St) (p : Pc) (i : Nat) : Except Nat Int :=
  match lookN p.nm S.names with
  | none => .error 7
  | some v =>
    if p.way = 1 then fitP p.x (addrP S v / 65536 : Nat)
    else if p.way = 2 then fitP p.x (addrP S v % 65536 : Nat)
    else if p.way = 3 then
      if ((addrP S v : Int) - 4 * ((i : Int) + 1)).tmod 4 ≠ 0 then .error 2 else fitP p.x (((addrP S v : Int) - 4 * ((i : Int) + 1)).tdiv 4)
    else fitP p.x (addrP S v : Nat)
def encP (S : St) (p : Pc) (i : Nat) : Except Nat Nat :=
  if p.raw then .ok p.w
  else do
    let n ← if p.named then standsP S p i else .ok p.x.imm
    if encE { p.x with imm := n } = 0 then .ok (wordOf { p.x with imm := n }) else .error (encE { p.x with imm := n })
/-- The words of the pieces, the first of which has the number i. -/
def wordsP (S : St) : Nat → List Pc → Except (Nat × Nat) (List Nat)
  | _, [] => .ok []
  | i, p :: r => match encP S p i with
    | .error e => .error (e, p.line)
    | .ok w => match wordsP S (i + 1) r with
      | .error e => .error e
      | .ok l => .ok (w :: l)
def entryN (S : St) : Nat := match lookN wStart S.names with
  | some v => if v.1 = 0 then addrP S v else 0
  | none => 0
def progP (S : St) : Except (Nat × Nat) Exe :=
  match wordsP S 0 S.pcs with
  | .error e => .error e
  | .ok l => .ok ⟨l, S.data, (roomN S : Nat), entryN S⟩
def linesN (text : List UInt8) : List (List UInt8) := let l := Lib.split text [10]; if l.getLast? = some [] then l.dropLast else l
/-- The program of a text; else why not, and the line. -/
def mkP (text : List UInt8) : Except (Nat × Nat) Exe :=
  if 65536 < text.length then .error (6, 0)
  else if 400 < (linesN text).length then .error (6, 0)
  else match linesP 0 (linesN text) St.nil with
    | .error e => .error e
    | .ok S => progP S
end Go.Proofs.YtmmnkoeajdeldaaGreatDoor.Pl
