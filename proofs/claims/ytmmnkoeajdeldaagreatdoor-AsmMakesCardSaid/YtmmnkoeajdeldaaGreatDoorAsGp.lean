/- Plain Lean: a text's lines, by the program's way and the document's. No program in sight. Plain Lean: remarks, blanks and empty lines turn nothing but lines' numbers. No program in sight. Plain Lean: what a jump to a name, and the name's address, are. No program in sight. -/
import Derived.Test.YtmmnkoeajdeldaaGreatDoorAsDc
import Derived.Lib.SplitLaws
import Derived.Test.YtmmnkoeajdeldaaGreatDoorAsEq2
namespace Go.Proofs.YtmmnkoeajdeldaaGreatDoor.Pl
open Go.RowKit
set_option linter.unusedVariables false
set_option linter.unusedSimpArgs false
theorem pre_one (c b : UInt8) (l : List UInt8) : [c].isPrefixOf (b :: l) = (c == b) := by simp [List.isPrefixOf]
theorem index_one (c : UInt8) (r : List UInt8) : ∀ x : List UInt8, c ∉ x → Lib.index (x ++ c :: r) [c] = (x.length : Nat)
  | [], _ => by simp [Lib.index, pre_one]
  | b :: x, h => by
    have hb : c ≠ b := fun e => h (by simp [e])
    have ih := index_one c r x (fun e => h (List.mem_cons_of_mem _ e))
    rw [List.cons_append, Lib.index, pre_one, if_neg (by simpa using hb), ih, if_neg (by rw [beq_iff_eq]; omega)]
    simp
theorem index_no (c : UInt8) : ∀ x : List UInt8, c ∉ x → Lib.index x [c] = -1
  | [], _ => by simp [Lib.index]
  | b :: x, h => by
    have hb : c ≠ b := fun e => h (by simp [e])
    have ih := index_no c x (fun e => h (List.mem_cons_of_mem _ e))
    rw [Lib.index, pre_one, if_neg (by simpa using hb), ih, if_pos (by simp)]
theorem split_no (c : UInt8) (x : List UInt8) (h : c ∉ x) : Lib.split x [c] = [x] := by
  unfold Lib.split
  rw [Lib.count_miss (index_no c x h)]; rfl
theorem split_at (c : UInt8) (x r : List UInt8) (h : c ∉ x) : Lib.split (x ++ c :: r) [c] = x :: Lib.split r [c] := by
  have hi := index_one c r x h
  have hd : (x ++ c :: r).drop (x.length + [c].length) = r := by simp
  unfold Lib.split
  rw [Lib.count_hit (by simp) hi, hd, Nat.add_comm, Lib.splitK, hi, if_neg (by rw [beq_iff_eq]; omega)]
  simp
theorem split_ne (c : UInt8) (s : List UInt8) : Lib.split s [c] ≠ [] := by
  unfold Lib.split
  cases Lib.count s [c] with
  | zero => simp [Lib.splitK]
  | succ k => rw [Lib.splitK]; split <;> simp
theorem cut10 (s : List UInt8) : (10 : UInt8) ∉ s ∨ ∃ x r, s = x ++ 10 :: r ∧ (10 : UInt8) ∉ x := by
  induction s with
  | nil => exact .inl (by simp)
  | cons c s ih =>
    by_cases hc : c = 10
    · subst hc; exact .inr ⟨[], s, rfl, by simp⟩
    · rcases ih with h | ⟨x, r, rfl, h⟩
      · exact .inl fun e => by (rcases List.mem_cons.1 e with e | e <;> first | exact hc e.symm | exact h e)
      · exact .inr ⟨c :: x, r, rfl, fun e => by (rcases List.mem_cons.1 e with e | e <;> first | exact hc e.symm | exact h e)⟩
theorem linesN_no {x : List UInt8} (h : (10 : UInt8) ∉ x) : linesN x = if x = [] then [] else [x] := by
  unfold linesN
  rw [split_no 10 x h]
  by_cases hx : x = []
  · subst hx; rfl
  · simp [hx]
theorem linesN_at {x r : List UInt8} (h : (10 : UInt8) ∉ x) : linesN (x ++ 10 :: r) = x :: linesN r := by
  unfold linesN
  rw [split_at 10 x r h]
  have hne := split_ne 10 r
  generalize Lib.split r [10] = m at hne
  cases m with
  | nil => exact absurd rfl hne
  | cons a m =>
    simp only [List.getLast?_cons_cons, List.dropLast_cons_cons]
    split <;> rfl
theorem linesDF_no {x : List UInt8} : ∀ (cur : List UInt8), (10 : UInt8) ∉ x → linesDF cur x = if cur ++ x = [] then [] else [cur ++ x] := by
  induction x with
  | nil => intro cur _; simp [linesDF]
  | cons c x ih =>
    intro cur h
    have hc : ¬ c.toNat = 10 := fun e => h (by rw [show c = 10 from UInt8.toNat_inj.1 e]; simp)
    rw [linesDF, if_neg hc, ih _ (fun e => h (List.mem_cons_of_mem _ e))]
    simp
theorem linesDF_at {x r : List UInt8} : ∀ (cur : List UInt8), (10 : UInt8) ∉ x → linesDF cur (x ++ 10 :: r) = (cur ++ x) :: linesDF [] r := by
  induction x with
  | nil => intro cur _; simp [linesDF]
  | cons c x ih =>
    intro cur h
    have hc : ¬ c.toNat = 10 := fun e => h (by rw [show c = 10 from UInt8.toNat_inj.1 e]; simp)
    rw [List.cons_append, linesDF, if_neg hc, ih _ (fun e => h (List.mem_cons_of_mem _ e))]
    simp
theorem linesN_eq : ∀ (n : Nat) (s : List UInt8), s.length ≤ n → linesN s = linesD s
  | 0, s, h => by rw [List.eq_nil_of_length_eq_zero (by omega : s.length = 0)]; rfl
  | n + 1, s, h => by
    rcases cut10 s with hs | ⟨x, r, rfl, hs⟩
    · rw [linesN_no hs]
      unfold linesD
      rw [linesDF_no [] hs]
      simp
    · rw [linesN_at hs, linesN_eq n r (by simp at h; omega)]
      unfold linesD
      rw [linesDF_at [] hs]
      simp
theorem linesD_len : ∀ (s cur : List UInt8), (linesDF cur s).length ≤ s.length + 1
  | [], cur => by unfold linesDF; split <;> simp
  | c :: r, cur => by
    unfold linesDF
    split
    · have := linesD_len r []; simp; omega
    · have := linesD_len r (cur ++ [c]); simp; omega
/-- No line has the sign that ends lines; all are as long as the text, at most. -/
theorem linesDF_mem : ∀ (s cur : List UInt8), (10 : UInt8) ∉ cur → ∀ x ∈ linesDF cur s, (10 : UInt8) ∉ x
  | [], cur, hc, x, hx => by
    unfold linesDF at hx
    split at hx
    · cases hx
    · rw [List.mem_singleton.1 hx]; exact hc
  | c :: r, cur, hc, x, hx => by
    unfold linesDF at hx
    split at hx
    · rcases List.mem_cons.1 hx with rfl | hx
      · exact hc
      · exact linesDF_mem r [] (by simp) x hx
    · next h =>
      refine linesDF_mem r _ (fun e => ?_) x hx
      rcases List.mem_append.1 e with e | e
      · exact hc e
      · rw [← List.mem_singleton.1 e] at h; exact h rfl
/-- A text of whole lines. -/
def joinN : List (List UInt8) → List UInt8
  | [] => []
  | x :: r => x ++ 10 :: joinN r
theorem linesN_join : ∀ l : List (List UInt8), (∀ x ∈ l, (10 : UInt8) ∉ x) → linesN (joinN l) = l
  | [], _ => rfl
  | x :: r, h => by
    show linesN (x ++ 10 :: joinN r) = _
    rw [linesN_at (h x (by simp)), linesN_join r fun y hy => h y (List.mem_cons_of_mem _ hy)]
theorem joinN_app : ∀ a b : List (List UInt8), joinN (a ++ b) = joinN a ++ joinN b
  | [], b => rfl
  | x :: a, b => by simp [joinN, joinN_app a b]
theorem joinN_len : ∀ a : List (List UInt8), (joinN a).length = (a.map List.length).sum + a.length
  | [] => rfl
  | x :: a => by simp [joinN, joinN_len a]; omega
end Go.Proofs.YtmmnkoeajdeldaaGreatDoor.Pl
namespace Go.Proofs.YtmmnkoeajdeldaaGreatDoor.Pl
open Go.RowKit
set_option linter.unusedVariables false
set_option linter.unusedSimpArgs false
/-- All that was taken in, with lines of other numbers. -/
def lnP (f : Nat → Nat) (p : Pc) : Pc := { p with line := f p.line }
def lnS (f : Nat → Nat) (S : St) : St := { S with pcs := S.pcs.map (lnP f) }
theorem nameP_ln (f : Nat → Nat) (s : List UInt8) (o a : Nat) (S : St) : nameP s o a (lnS f S) = (nameP s o a S).map (lnS f) := by
  unfold nameP
  show (if (lookN s S.names).isSome then _ else _) = _
  split <;> rfl
theorem addP_ln (f : Nat → Nat) (p : Pc) (S : St) : addP (lnP f p) (lnS f S) = lnS f (addP p S) := by simp [addP, lnS]
theorem bind_map {α β : Type} (x : Except Nat α) (g : α → α) (F G : α → Except Nat β) (m : β → β) (h : ∀ a, F (g a) = (G a).map m) : (x.map g >>= F) = (x >>= G).map m := by
  cases x with
  | error e => rfl
  | ok a => exact h a
theorem bind_same {α β : Type} (x : Except Nat α) (F G : α → Except Nat β) (m : β → β) (h : ∀ a, F a = (G a).map m) : (x >>= F) = (x >>= G).map m := by
  cases x with
  | error e => rfl
  | ok a => exact h a
theorem fin_ln (f : Nat → Nat) (ln op : Nat) (S : St) (y : Ins × Tk) : finI (f ln) op (lnS f S) y = (finI ln op S y).map (lnS f) := by
  unfold finI
  split
  · exact congrArg Except.ok (addP_ln f (pcN ln y.1 y.2.s (if 25 ≤ op ∧ op ≤ 29 then 3 else 0)) S)
  · refine bind_same _ _ _ _ fun n => ?_
    exact congrArg Except.ok (addP_ln f (pcI ln { y.1 with imm := n }) S)
theorem opF_le {s : List UInt8} : ∀ {l : List (List UInt8)} {i op : Nat}, opF s l i = some op → i ≤ op ∧ op < i + l.length
  | [], _, _, h => by cases h
  | a :: r, i, op, h => by
    simp only [opF] at h
    split at h
    · cases h; simp
    · have := opF_le h
      simp; omega
theorem line_ln (f : Nat → Nat) (ln : Nat) (l : List Tk) (S : St) : lineP (f ln) l (lnS f S) = (lineP ln l S).map (lnS f) := by
  unfold lineP
  refine bind_same _ _ _ _ fun ⟨t, r⟩ => ?_
  simp only
  split
  · rw [liP_eq, liP_eq]
    split
    · refine bind_same _ _ _ _ fun _ => ?_
      refine congrArg Except.ok ?_
      rw [← addP_ln, ← addP_ln]
      rfl
    · rfl
  split
  · rw [laP_eq, laP_eq]
    split
    · refine congrArg Except.ok ?_
      rw [← addP_ln, ← addP_ln]
      rfl
    · rfl
  split
  · rw [rawP_eq, rawP_eq]
    split
    · refine bind_same _ _ _ _ fun _ => ?_
      refine congrArg Except.ok ?_
      rw [← addP_ln]
      rfl
    · rfl
  split
  · rw [textP_eq, textP_eq]
    split
    · rw [nameP_ln]
      exact bind_map _ _ _ _ _ fun _ => rfl
    · rfl
  split
  · rw [word_eq, word_eq]
    split
    · refine bind_same _ _ _ _ fun _ => ?_
      rw [nameP_ln]
      exact bind_map _ _ _ _ _ fun _ => rfl
    · rfl
  split
  · rw [room_eq, room_eq]
    split
    · refine bind_same _ _ _ _ fun _ => ?_
      rw [nameP_ln]
      exact bind_map _ _ _ _ _ fun _ => rfl
    · rfl
  cases ho : opN t.s with
  | none => rfl
  | some op =>
    have h1 := opF_le ho
    have h2 : opNs.length = 31 := rfl
    rw [h2] at h1
    simp only
    rw [insP_eq _ _ _ _ h1.1 (by omega), insP_eq _ _ _ _ h1.1 (by omega)]
    split
    · exact fin_ln f ln op S _
    · rfl
theorem take_ln (f : Nat → Nat) (ln : Nat) (l : List Tk) (S : St) : takeP (f ln) l (lnS f S) = (takeP ln l S).map (lnS f) := by
  rcases l with _ | ⟨a, _ | ⟨b, _ | ⟨c, r⟩⟩⟩
  · rfl
  · exact line_ln f ln _ S
  · show (if _ then _ else _) = Except.map _ (if _ then _ else _)
    split
    · show nameP a.s 0 (S.pcs.map (lnP f)).length (lnS f S) = _
      rw [List.length_map]
      exact nameP_ln f _ _ _ S
    · exact line_ln f ln _ S
  · exact line_ln f ln _ S
theorem addr_ln (f : Nat → Nat) (S : St) (v : Nat × Nat) : addrP (lnS f S) v = addrP S v := by simp [addrP, dataAt, behindP, lnS]
theorem enc_ln (f : Nat → Nat) (S : St) (p : Pc) (i : Nat) : encP (lnS f S) (lnP f p) i = encP S p i := by
  unfold encP standsP
  simp only [addr_ln]
  rfl
theorem words_ln (f : Nat → Nat) (S : St) : ∀ (l : List Pc) (i : Nat), wordsP (lnS f S) i (l.map (lnP f)) = match wordsP S i l with | .error e => .error (e.1, f e.2) | .ok w => .ok w
  | [], i => rfl
  | p :: r, i => by
    simp only [List.map_cons, wordsP, enc_ln, words_ln f S r (i + 1)]
    cases encP S p i with
    | error e => rfl
    | ok w =>
      simp only
      cases wordsP S (i + 1) r <;> rfl
def lnE (f : Nat → Nat) : Except (Nat × Nat) Exe → Except (Nat × Nat) Exe
  | .error e => .error (e.1, f e.2)
  | .ok x => .ok x
theorem prog_ln (f : Nat → Nat) (S : St) : progP (lnS f S) = lnE f (progP S) := by
  unfold progP
  have h := words_ln f S S.pcs 0
  show (match wordsP (lnS f S) 0 (S.pcs.map (lnP f)) with | .error e => _ | .ok l => _) = _
  rw [h]
  cases wordsP S 0 S.pcs with
  | error e => rfl
  | ok l =>
    simp only [lnE]
    have e1 : roomN (lnS f S) = roomN S := by
      have hb : behindP (lnS f S) = behindP S := by simp [behindP, dataAt, lnS]
      unfold roomN
      rw [hb]
      rfl
    have e2 : entryN (lnS f S) = entryN S := by
      unfold entryN
      simp only [addr_ln]
      rfl
    rw [e1, e2]
    rfl
/-- What is made of lines: all that is behind the count of lines. -/
def restL (n : Nat) (l : List (List UInt8)) (S : St) : Except (Nat × Nat) Exe := match linesP n l S with
  | .error e => .error e
  | .ok S' => progP S'
theorem rest_twice (g : List UInt8 → List UInt8) (m : List UInt8) (hm : toks m = some []) (hg : ∀ s, toks (g s) = toks s) : ∀ (l : List (List UInt8)) (n : Nat) (S : St), restL (2 * n) (l.flatMap fun s => [m, g s]) (lnS (2 * ·) S) = lnE (2 * ·) (restL n l S)
  | [], n, S => prog_ln _ S
  | s :: r, n, S => by
    have ih := rest_twice g m hm hg r (n + 1)
    unfold restL at ih ⊢
    simp only [List.flatMap_cons, List.cons_append, List.nil_append, linesP, hm, hg]
    have e0 : takeP (2 * n + 1) [] (lnS (2 * ·) S) = .ok (lnS (2 * ·) S) := rfl
    rw [e0]
    simp only
    cases ht : toks s with
    | none => rfl
    | some t =>
      have e1 := take_ln (2 * ·) (n + 1) t S
      rw [show 2 * n + 1 + 1 = 2 * (n + 1) by omega]
      dsimp only
      rw [e1]
      cases takeP (n + 1) t S with
      | error e => rfl
      | ok S1 => exact ih S1
theorem rest_same (g : List UInt8 → List UInt8) (hg : ∀ s, toks (g s) = toks s) : ∀ (l : List (List UInt8)) (n : Nat) (S : St), restL n (l.map g) S = restL n l S
  | [], n, S => rfl
  | s :: r, n, S => by
    have ih := rest_same g hg r (n + 1)
    unfold restL at ih ⊢
    simp only [List.map_cons, linesP, hg]
    cases toks s with
    | none => rfl
    | some t =>
      simp only
      cases takeP (n + 1) t S with
      | error e => rfl
      | ok S1 => exact ih S1
def gapT (m : List UInt8) (ahead : Bool) : List (List UInt8) → List UInt8
  | [] => []
  | s :: r => (if ahead then 35 :: 32 :: (m ++ [10]) else []) ++ (32 :: 9 :: (s ++ [10])) ++ gapT m ahead r
def gapF (ahead : Bool) (n : Nat) : Nat := if ahead then 2 * n else n
theorem mk_small {t : List UInt8} (h1 : t.length ≤ 65536) (h2 : (linesN t).length ≤ 400) : mkP t = restL 0 (linesN t) St.nil := by
  unfold mkP restL
  rw [if_neg (by omega), if_neg (by omega)]
  cases linesP 0 (linesN t) St.nil <;> rfl
theorem gap_join (m : List UInt8) (ahead : Bool) : ∀ l : List (List UInt8), gapT m ahead l = joinN (if ahead then l.flatMap fun s => [35 :: 32 :: m, 32 :: 9 :: s] else l.map fun s => 32 :: 9 :: s)
  | [] => by cases ahead <;> rfl
  | s :: r => by
    have ih := gap_join m ahead r
    cases ahead
    · simp only [gapT, ih]; simp [joinN]
    · simp only [gapT, ih]; simp [joinN]
theorem gapT_len (m : List UInt8) (ahead : Bool) : ∀ l : List (List UInt8), (gapT m ahead l).length ≤ (joinN l).length + (m.length + 5) * l.length
  | [] => by simp [gapT, joinN]
  | s :: r => by
    have ih := gapT_len m ahead r
    simp only [gapT, joinN, List.length_append, List.length_cons, Nat.mul_succ]
    cases ahead <;> simp <;> omega
theorem joinD_len : ∀ (s cur : List UInt8), (joinN (linesDF cur s)).length ≤ cur.length + s.length + 1
  | [], cur => by unfold linesDF; split <;> simp [joinN]
  | c :: r, cur => by
    unfold linesDF
    split
    · have := joinD_len r []; simp [joinN] at this ⊢; omega
    · have := joinD_len r (cur ++ [c]); simp at this ⊢; omega
theorem flat_len (f g : List UInt8 → List UInt8) : ∀ l : List (List UInt8), (l.flatMap fun s => [f s, g s]).length = 2 * l.length
  | [] => rfl
  | s :: r => by simp [List.flatMap_cons] at *; have := flat_len f g r; simp [List.length_flatMap] at this; omega
/-- The law. -/
theorem mk_gaps (t m : List UInt8) (ahead : Bool) (ht : t.length ≤ 1500) (hm : m.length ≤ 100) (h10 : (10 : UInt8) ∉ m) (hl : (linesN t).length ≤ 150) : mkP (gapT m ahead (linesN t)) = lnE (gapF ahead) (mkP t) := by
  have hmem : ∀ x ∈ linesN t, (10 : UInt8) ∉ x := by
    rw [linesN_eq t.length t (Nat.le_refl _)]
    exact linesDF_mem t [] (by simp)
  have hjl : (joinN (linesN t)).length ≤ t.length + 1 := by
    rw [linesN_eq t.length t (Nat.le_refl _)]
    have := joinD_len t []
    simpa [linesD] using this
  have hlen := gapT_len m ahead (linesN t)
  have hb : (m.length + 5) * (linesN t).length ≤ 105 * 150 := Nat.mul_le_mul (by omega) hl
  have hg : linesN (gapT m ahead (linesN t)) = (if ahead then (linesN t).flatMap fun s => [35 :: 32 :: m, 32 :: 9 :: s] else (linesN t).map fun s => 32 :: 9 :: s) := by
    rw [gap_join]
    refine linesN_join _ fun x hx => ?_
    cases ahead
    · simp only [Bool.false_eq_true, if_false, List.mem_map] at hx
      obtain ⟨s, hs, rfl⟩ := hx
      have := hmem s hs
      simp [this]
    · simp only [if_true, List.mem_flatMap] at hx
      obtain ⟨s, hs, hx⟩ := hx
      have := hmem s hs
      simp at hx
      rcases hx with rfl | rfl <;> simp [this, h10]
  have hgl : (linesN (gapT m ahead (linesN t))).length ≤ 400 := by
    rw [hg]
    cases ahead
    · simp; omega
    · have := flat_len (fun s => 35 :: 32 :: m) (fun s => 32 :: 9 :: s) (linesN t)
      simp only [if_true]
      omega
  rw [mk_small (by omega) hgl, mk_small (by omega) (by omega), hg]
  cases ahead
  · have h := rest_same (fun s => 32 :: 9 :: s) (fun s => by rw [toks_cons, if_neg (by decide), if_pos (by decide), toks_cons, if_neg (by decide), if_pos (by decide)]) (linesN t) 0 St.nil
    simp only [Bool.false_eq_true, if_false, h]
    show _ = lnE (fun n => n) _
    cases restL 0 (linesN t) St.nil <;> rfl
  · exact rest_twice (fun s => 32 :: 9 :: s) (35 :: 32 :: m) (by rw [toks_cons]; rfl) (fun s => by rw [toks_cons, if_neg (by decide), if_pos (by decide), toks_cons, if_neg (by decide), if_pos (by decide)]) (linesN t) 0 St.nil
/-- The line that is told with an error is one of the text's, or 0. -/
theorem rest_min (N : Nat) : ∀ (l : List (List UInt8)) (n : Nat) (S : St), n + l.length ≤ N → restL n l (lnS (min · N) S) = lnE (min · N) (restL n l S)
  | [], n, S, _ => prog_ln _ S
  | s :: r, n, S, h => by
    rw [List.length_cons] at h
    have ih := rest_min N r (n + 1)
    unfold restL at ih ⊢
    simp only [linesP]
    cases ht : toks s with
    | none =>
      show _ = Except.error (3, min (n + 1) N)
      rw [Nat.min_eq_left (by omega)]
    | some t =>
      have e1 := take_ln (min · N) (n + 1) t S
      rw [show min (n + 1) N = n + 1 from Nat.min_eq_left (by omega)] at e1
      dsimp only
      rw [e1]
      cases takeP (n + 1) t S with
      | error e =>
        show _ = Except.error (e, min (n + 1) N)
        rw [Nat.min_eq_left (by omega)]
        rfl
      | ok S1 => exact ih S1 (by omega)
theorem mk_line {t : List UInt8} {e n : Nat} (h : mkP t = .error (e, n)) : n ≤ 400 := by
  unfold mkP at h
  split at h
  · cases h; exact Nat.zero_le _
  split at h
  · cases h; exact Nat.zero_le _
  · next h4 =>
    have hr : restL 0 (linesN t) St.nil = .error (e, n) := by
      unfold restL
      rw [← h]
      cases linesP 0 (linesN t) St.nil <;> rfl
    have hm := rest_min 400 (linesN t) 0 St.nil (by omega)
    rw [show lnS (min · 400) St.nil = St.nil from rfl, hr] at hm
    simp only [lnE, Except.error.injEq, Prod.mk.injEq, true_and] at hm
    omega
theorem gapT_snoc (m : List UInt8) (ahead : Bool) (s : List UInt8) : ∀ l : List (List UInt8), gapT m ahead (l ++ [s]) = gapT m ahead l ++ ((if ahead then 35 :: 32 :: (m ++ [10]) else []) ++ (32 :: 9 :: (s ++ [10])))
  | [] => by simp [gapT]
  | a :: r => by simp [gapT, gapT_snoc m ahead s r]
theorem gapT_app (m : List UInt8) (ahead : Bool) (b : List (List UInt8)) : ∀ a : List (List UInt8), gapT m ahead (a ++ b) = gapT m ahead a ++ gapT m ahead b
  | [] => rfl
  | s :: r => by simp [gapT, gapT_app m ahead b r]
/-- The text with gaps is not long, however far it is made. -/
theorem gapT_small (t m : List UInt8) (ahead : Bool) (ht : t.length ≤ 1500) (hm : m.length ≤ 100) (hl : (linesD t).length ≤ 150) (k : Nat) : (gapT m ahead ((linesD t).take k)).length ≤ 17251 := by
  have h1 := gapT_len m ahead (linesD t)
  have h2 := joinD_len t []
  have hb : (m.length + 5) * (linesD t).length ≤ 105 * 150 := Nat.mul_le_mul (by omega) hl
  have h3 := congrArg List.length (gapT_app m ahead ((linesD t).drop k) ((linesD t).take k))
  rw [List.take_append_drop, List.length_append] at h3
  unfold linesD at *
  simp at h2
  omega
theorem line_small (t : List UInt8) : ∀ x ∈ linesD t, x.length ≤ t.length := by
  have key : ∀ (s cur x : List UInt8), x ∈ linesDF cur s → x.length ≤ cur.length + s.length := by
    intro s
    induction s with
    | nil => intro cur x hx; unfold linesDF at hx; split at hx; cases hx; rw [List.mem_singleton.1 hx]; simp
    | cons c r ih =>
      intro cur x hx
      unfold linesDF at hx
      split at hx
      · rcases List.mem_cons.1 hx with rfl | hx
        · omega
        · have := ih [] x hx; simp at this ⊢; omega
      · have := ih _ x hx; simp at this ⊢; omega
  intro x hx
  have := key t [] x hx
  simpa using this
def resE : Except (Nat × Nat) Exe → Exe × Nat × Nat
  | .error e => (⟨[], [], 0, 0⟩, e.1, e.2)
  | .ok X => (X, 0, 0)
theorem res_gap (ahead : Bool) (E : Except (Nat × Nat) Exe) : resE (lnE (gapF ahead) E) = ((resE E).1, (resE E).2.1, gapF ahead (resE E).2.2) := by
  cases E with
  | error e => rfl
  | ok X => cases ahead <;> rfl
theorem res_line (t : List UInt8) : (resE (mkP t)).2.2 ≤ 400 := by
  cases h : mkP t with
  | error e => exact mk_line (e := e.1) (n := e.2) h
  | ok X => exact Nat.zero_le _
end Go.Proofs.YtmmnkoeajdeldaaGreatDoor.Pl
