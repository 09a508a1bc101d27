/- Plain Lean: what a jump to a name, and the name's address, are. No program in sight. -/
import Derived.Test.YtmmnkoeajdeldaaDoorAsGp
namespace Go.Proofs.YtmmnkoeajdeldaaDoor.Pl
open Go.RowKit
set_option linter.unusedVariables false
set_option linter.unusedSimpArgs false
def addL : List UInt8 := [97, 100, 100, 32, 114, 49, 44, 32, 114, 50, 44, 32, 114, 51]
def sysL : List UInt8 := [115, 121, 115, 32, 53]
def goalW : List UInt8 := [103, 111, 97, 108]
def goalL : List UInt8 := [103, 111, 97, 108, 58]
def beqL : List UInt8 := [98, 101, 113, 32, 114, 52, 44, 32, 114, 53, 44, 32, 103, 111, 97, 108]
def laL : List UInt8 := [108, 97, 32, 114, 54, 44, 32, 103, 111, 97, 108]
def oneL (n : Nat) (l : List UInt8) (S : St) : Except (Nat × Nat) St := match toks l with
  | none => .error (3, n)
  | some t => match takeP n t S with
    | .error e => .error (e, n)
    | .ok S1 => .ok S1
theorem linesP_one (n : Nat) (l : List UInt8) (r : List (List UInt8)) (S : St) : linesP n (l :: r) S = match oneL (n + 1) l S with | .error e => .error e | .ok S1 => linesP (n + 1) r S1 := by
  unfold oneL
  rw [linesP]
  cases toks l with
  | none => rfl
  | some t =>
    simp only
    cases takeP (n + 1) t S <;> rfl
theorem add_one (n : Nat) (S : St) : oneL n addL S = .ok (addP (pcI n ⟨1, 1, 2, 3, 0⟩) S) := by kernel_rfl
theorem sys_one (n : Nat) (S : St) : oneL n sysL S = .ok (addP (pcI n ⟨31, 0, 0, 0, 5⟩) S) := by kernel_rfl
theorem beq_one (n : Nat) (S : St) : oneL n beqL S = .ok (addP (pcN n ⟨25, 4, 5, 0, 0⟩ goalW 3) S) := by kernel_rfl
theorem la_one (n : Nat) (S : St) : oneL n laL S = .ok (addP (pcN n ⟨16, 6, 6, 0, 0⟩ goalW 2) (addP (pcN n ⟨19, 6, 0, 0, 0⟩ goalW 1) S)) := by kernel_rfl
theorem goal_one (n : Nat) (P : List Pc) (D : List UInt8) (O : List Nat) : oneL n goalL ⟨P, D, O, []⟩ = .ok ⟨P, D, O, [(goalW, 0, P.length)]⟩ := by kernel_rfl
def pcsR (x : Ins) : Nat → Nat → List Pc
  | _, 0 => []
  | n, k + 1 => pcI (n + 1) x :: pcsR x (n + 1) k
theorem pcsR_len (x : Ins) : ∀ n k, (pcsR x n k).length = k
  | _, 0 => rfl
  | n, k + 1 => by simp [pcsR, pcsR_len x (n + 1) k]
theorem rep_lines {x : Ins} {l : List UInt8} (h : ∀ n S, oneL n l S = .ok (addP (pcI n x) S)) (r : List (List UInt8)) : ∀ (k n : Nat) (P : List Pc) (D : List UInt8) (O : List Nat) (N : List (List UInt8 × Nat × Nat)), linesP n (List.replicate k l ++ r) ⟨P, D, O, N⟩ = linesP (n + k) r ⟨P ++ pcsR x n k, D, O, N⟩
  | 0, n, P, D, O, N => by simp [pcsR]
  | k + 1, n, P, D, O, N => by
    rw [List.replicate_succ, List.cons_append, linesP_one, h]
    simp only [addP]
    rw [rep_lines h r k (n + 1)]
    simp [pcsR, show n + 1 + k = n + (k + 1) by omega]
theorem words_rep {x : Ins} (hx : encE x = 0) (S : St) (r : List Pc) : ∀ (k n i : Nat), wordsP S i (pcsR x n k ++ r) = match wordsP S (i + k) r with | .error e => .error e | .ok l => .ok (List.replicate k (wordOf x) ++ l)
  | 0, n, i => by simp only [pcsR, List.nil_append, Nat.add_zero, List.replicate_zero]; cases wordsP S i r <;> rfl
  | k + 1, n, i => by
    have e : encP S (pcI (n + 1) x) i = .ok (wordOf x) := by
      show (if encE x = 0 then Except.ok (wordOf x) else _) = _
      rw [if_pos hx]
    simp only [pcsR, List.cons_append, wordsP, e]
    rw [words_rep hx S r k (n + 1) (i + 1), show i + 1 + k = i + (k + 1) by omega]
    cases wordsP S (i + (k + 1)) r <;> simp [List.replicate_succ]
theorem encE_beq {v : Int} (h1 : -32768 ≤ v) (h2 : v ≤ 32767) : encE ⟨25, 4, 5, 0, v⟩ = 0 := by
  have h : fits 25 v = true := by unfold fits; rw [if_neg (by decide)]; exact decide_eq_true ⟨h1, h2⟩
  unfold encE
  rw [if_neg (show ¬ cls 25 = 0 by decide), if_neg (show ¬ (15 < 4 ∨ 15 < 5 ∨ 15 < 0) by decide), if_neg (by simp [over, cls]), if_neg (by simp [h])]
theorem encE_ori {v : Int} (h1 : 0 ≤ v) (h2 : v ≤ 65535) : encE ⟨16, 6, 6, 0, v⟩ = 0 := by
  have h : fits 16 v = true := by unfold fits; rw [if_pos (by decide)]; exact decide_eq_true ⟨h1, h2⟩
  unfold encE
  rw [if_neg (show ¬ cls 16 = 0 by decide), if_neg (show ¬ (15 < 6 ∨ 15 < 6 ∨ 15 < 0) by decide), if_neg (by simp [over, cls]), if_neg (by simp [h])]
theorem fit_ok {x : Ins} {v : Int} (h : encE { x with imm := v } = 0) (h1 : -2147483648 ≤ v) (h2 : v ≤ 2147483647) : fitP x v = .ok v := by
  unfold fitP inP
  rw [if_neg (by omega), if_pos h]
  rfl
theorem enc_named {S : St} {ln : Nat} {x : Ins} {s : List UInt8} {way i : Nat} {v : Int} (hs : standsP S (pcN ln x s way) i = .ok v) (h : encE { x with imm := v } = 0) : encP S (pcN ln x s way) i = .ok (wordOf { x with imm := v }) := by
  show (standsP S (pcN ln x s way) i >>= fun n => if encE { x with imm := n } = 0 then Except.ok (wordOf { x with imm := n }) else _) = _
  rw [hs]
  show (if _ then _ else _) = _
  rw [if_pos h]
theorem enc_beq {S : St} {ln g i : Nat} (hl : lookN goalW S.names = some (0, g)) (hg : g ≤ 1000) (hi : i ≤ 1000) : encP S (pcN ln ⟨25, 4, 5, 0, 0⟩ goalW 3) i = .ok (wordOf ⟨25, 4, 5, 0, (g : Int) - i - 1⟩) := by
  have hv := @encE_beq ((g : Int) - i - 1) (by omega) (by omega)
  refine enc_named ?_ hv
  unfold standsP
  show (match lookN goalW S.names with | none => _ | some v => _) = _
  rw [hl]
  show (if (((4 * g : Nat) : Int) - 4 * ((i : Int) + 1)).tmod 4 ≠ 0 then _ else fitP _ ((((4 * g : Nat) : Int) - 4 * ((i : Int) + 1)).tdiv 4)) = _
  have e : ((4 * g : Nat) : Int) - 4 * ((i : Int) + 1) = 4 * ((g : Int) - i - 1) := by omega
  rw [e, Int.mul_tmod_right, if_neg (by simp), Int.mul_tdiv_cancel_left _ (by decide)]
  exact fit_ok hv (by omega) (by omega)
theorem enc_la1 {S : St} {ln g i : Nat} (hl : lookN goalW S.names = some (0, g)) (hg : g ≤ 1000) : encP S (pcN ln ⟨19, 6, 0, 0, 0⟩ goalW 1) i = .ok (wordOf ⟨19, 6, 0, 0, 0⟩) := by
  refine enc_named ?_ rfl
  unfold standsP
  show (match lookN goalW S.names with | none => _ | some v => _) = _
  rw [hl]
  show fitP _ ((4 * g / 65536 : Nat) : Int) = _
  rw [Nat.div_eq_of_lt (by omega)]
  rfl
theorem enc_la2 {S : St} {ln g i : Nat} (hl : lookN goalW S.names = some (0, g)) (hg : g ≤ 1000) : encP S (pcN ln ⟨16, 6, 6, 0, 0⟩ goalW 2) i = .ok (wordOf ⟨16, 6, 6, 0, (4 * g : Nat)⟩) := by
  have hv := @encE_ori ((4 * g : Nat) : Int) (by omega) (by omega)
  refine enc_named ?_ hv
  unfold standsP
  show (match lookN goalW S.names with | none => _ | some v => _) = _
  rw [hl]
  show fitP _ ((4 * g % 65536 : Nat) : Int) = _
  rw [Nat.mod_eq_of_lt (by omega)]
  exact fit_ok hv (by omega) (by omega)
def linesNm (n m : Nat) (back : Bool) : List (List UInt8) := if back then List.replicate n addL ++ goalL :: (List.replicate m sysL ++ [beqL, laL]) else List.replicate n addL ++ beqL :: laL :: (List.replicate m sysL ++ [goalL])
def atNm (n m : Nat) (back : Bool) : Nat := if back then n + m else n
def goNm (n m : Nat) (back : Bool) : Nat := if back then n else n + 3 + m
def wA : Nat := wordOf ⟨1, 1, 2, 3, 0⟩
def wS : Nat := wordOf ⟨31, 0, 0, 0, 5⟩
def threeNm (g i : Nat) : List Nat := [wordOf ⟨25, 4, 5, 0, (g : Int) - i - 1⟩, wordOf ⟨19, 6, 0, 0, 0⟩, wordOf ⟨16, 6, 6, 0, (4 * g : Nat)⟩]
def wordsNm (n m : Nat) (back : Bool) : List Nat := if back then List.replicate n wA ++ (List.replicate m wS ++ threeNm n (n + m)) else List.replicate n wA ++ (threeNm (n + 3 + m) n ++ List.replicate m wS)
theorem progNm {L : List Pc} {g : Nat} {T : List Nat} (h : wordsP ⟨L, [], [], [(goalW, 0, g)]⟩ 0 L = .ok T) : progP ⟨L, [], [], [(goalW, 0, g)]⟩ = .ok ⟨T, [], 0, 0⟩ := by
  unfold progP
  show (match wordsP ⟨L, [], [], [(goalW, 0, g)]⟩ 0 L with | .error e => _ | .ok l => _) = _
  rw [h]
  rfl
theorem threeNm_words {S : St} {g a b c : Nat} (hl : lookN goalW S.names = some (0, g)) (hg : g ≤ 1000) (r : List Pc) (i : Nat) (hi : i ≤ 900) : wordsP S i (pcN a ⟨25, 4, 5, 0, 0⟩ goalW 3 :: pcN b ⟨19, 6, 0, 0, 0⟩ goalW 1 :: pcN c ⟨16, 6, 6, 0, 0⟩ goalW 2 :: r) = match wordsP S (i + 3) r with | .error e => .error e | .ok l => .ok (threeNm g i ++ l) := by
  simp only [wordsP, enc_beq hl hg (show i ≤ 1000 by omega), enc_la1 hl hg, enc_la2 hl hg]
  cases wordsP S (i + 1 + 1 + 1) r <;> rfl
theorem restNm (n m : Nat) (back : Bool) (hn : n ≤ 60) (hm : m ≤ 60) : restL 0 (linesNm n m back) St.nil = .ok ⟨wordsNm n m back, [], 0, 0⟩ := by
  unfold restL linesNm St.nil
  have ea : encE ⟨1, 1, 2, 3, 0⟩ = 0 := rfl
  have es : encE ⟨31, 0, 0, 0, 5⟩ = 0 := rfl
  cases back with
  | true =>
    simp only [if_true]
    rw [rep_lines add_one, linesP_one, goal_one]
    simp only
    rw [rep_lines sys_one, linesP_one, beq_one]
    simp only [addP]
    rw [linesP_one, la_one]
    simp only [addP, linesP]
    simp only [List.nil_append, List.append_assoc, List.cons_append, pcsR_len]
    refine progNm ?_
    have hl : ∀ P, lookN goalW (St.mk P [] [] [(goalW, 0, n)]).names = some (0, n) := fun P => by simp [lookN]
    rw [words_rep ea, words_rep es, threeNm_words (hl _) (by omega) _ _ (by omega)]
    simp [wordsP, wordsNm, wA, wS]
  | false =>
    simp only [Bool.false_eq_true, if_false]
    rw [rep_lines add_one, linesP_one, beq_one]
    simp only [addP]
    rw [linesP_one, la_one]
    simp only [addP]
    rw [rep_lines sys_one, linesP_one, goal_one]
    simp only [linesP]
    simp only [List.nil_append, List.append_assoc, List.cons_append, List.length_append, List.length_cons, List.length_nil, pcsR_len]
    refine progNm ?_
    have hl : ∀ P, lookN goalW (St.mk P [] [] [(goalW, 0, n + (m + 1 + 1 + 1))]).names = some (0, n + (m + 1 + 1 + 1)) := fun P => by simp [lookN]
    rw [words_rep ea, threeNm_words (hl _) (by omega) _ _ (by omega)]
    have hw := words_rep es ⟨pcsR ⟨1, 1, 2, 3, 0⟩ 0 n ++ pcN (0 + n + 1) ⟨25, 4, 5, 0, 0⟩ goalW 3 :: pcN (0 + n + 1 + 1) ⟨19, 6, 0, 0, 0⟩ goalW 1 :: pcN (0 + n + 1 + 1) ⟨16, 6, 6, 0, 0⟩ goalW 2 :: pcsR ⟨31, 0, 0, 0, 5⟩ (0 + n + 1 + 1) m, [], [], [(goalW, 0, n + (m + 1 + 1 + 1))]⟩ [] m (0 + n + 1 + 1) (0 + n + 3)
    rw [List.append_nil] at hw
    rw [hw]
    simp [wordsP, wordsNm, wA, wS, show n + (m + 1 + 1 + 1) = n + 3 + m by omega]
theorem linesNm_mem {n m : Nat} {back : Bool} {x : List UInt8} (h : x ∈ linesNm n m back) : (10 : UInt8) ∉ x ∧ x.length ≤ 17 := by
  have key : x = addL ∨ x = sysL ∨ x = goalL ∨ x = beqL ∨ x = laL := by
    unfold linesNm at h
    cases back
    · simp [List.mem_replicate] at h
      rcases h with ⟨_, h⟩ | h | h | ⟨_, h⟩ | h <;> simp [h]
    · simp [List.mem_replicate] at h
      rcases h with ⟨_, h⟩ | h | ⟨_, h⟩ | h | h <;> simp [h]
  rcases key with rfl | rfl | rfl | rfl | rfl <;> exact ⟨by decide, by decide⟩
theorem linesNm_len (n m : Nat) (back : Bool) : (linesNm n m back).length = n + m + 3 := by
  unfold linesNm
  cases back <;> simp <;> omega
theorem joinN_le {N : Nat} : ∀ {l : List (List UInt8)}, (∀ x ∈ l, x.length ≤ N) → (joinN l).length ≤ (N + 1) * l.length
  | [], _ => by simp [joinN]
  | x :: r, h => by
    have h1 := h x (by simp)
    have h2 := joinN_le (l := r) fun y hy => h y (List.mem_cons_of_mem _ hy)
    simp only [joinN, List.length_append, List.length_cons, Nat.mul_succ]
    omega
theorem mkNm (n m : Nat) (back : Bool) (hn : n ≤ 60) (hm : m ≤ 60) : mkP (joinN (linesNm n m back)) = .ok ⟨wordsNm n m back, [], 0, 0⟩ ∧ (joinN (linesNm n m back)).length ≤ 2214 := by
  have hl := linesNm_len n m back
  have hj := joinN_le (N := 17) (l := linesNm n m back) fun x hx => (linesNm_mem hx).2
  rw [hl] at hj
  have hL : linesN (joinN (linesNm n m back)) = linesNm n m back := linesN_join _ fun x hx => (linesNm_mem hx).1
  refine ⟨?_, by omega⟩
  rw [mk_small (by omega) (by rw [hL, hl]; omega), hL]
  exact restNm n m back hn hm
theorem wordsNm_len (n m : Nat) (back : Bool) : (wordsNm n m back).length = n + m + 3 := by
  unfold wordsNm threeNm
  cases back <;> simp <;> omega
theorem wordsNm_at (n m : Nat) (back : Bool) (j : Nat) (hj : j < 3) : (wordsNm n m back)[atNm n m back + j]? = (threeNm (goNm n m back) (atNm n m back))[j]? := by
  unfold wordsNm atNm goNm
  have h3 : ∀ g i, (threeNm g i).length = 3 := fun _ _ => rfl
  cases back
  · simp only [Bool.false_eq_true, if_false]
    rw [List.getElem?_append_right (by simp), List.length_replicate, List.getElem?_append_left (by rw [h3]; omega), Nat.add_sub_cancel_left]
  · simp only [if_true]
    rw [List.getElem?_append_right (by simp; omega), List.length_replicate, List.getElem?_append_right (by simp; omega), List.length_replicate, show n + m + j - n - m = j by omega]
end Go.Proofs.YtmmnkoeajdeldaaDoor.Pl
