/- Plain Lean: the document's tokens are the program's. No program in sight. -/
import Derived.Test.YtmmnkoeajdeldaaGreatDoorAsDc
import Derived.Lib.ParseIntBCases
namespace Go.Proofs.YtmmnkoeajdeldaaGreatDoor.Pl
open Go.RowKit
open Go.Lib (itoa parseUintM parseUintB parseIntB)
set_option linter.unusedVariables false
set_option linter.unusedSimpArgs false
/-- What digits spell behind a number. -/
def val : List UInt8 → Nat → Nat
  | [], a => a
  | c :: r, a => val r (a * 10 + (c.toNat - 48))
theorem val_ge : ∀ (l : List UInt8) (a : Nat), a ≤ val l a
  | [], a => Nat.le_refl _
  | c :: r, a => by have := val_ge r (a * 10 + (c.toNat - 48)); simp only [val]; omega
theorem dig_bd {c : UInt8} (h : digB c = true) : 48 ≤ c.toNat ∧ c.toNat ≤ 57 := of_decide_eq_true h
theorem numF_true : ∀ (l : List UInt8) (n : Int), (numF l n true).2 = true
  | [], n => rfl
  | c :: r, n => by simp only [numF, Bool.true_or]; exact numF_true r _
theorem numF_val : ∀ (l : List UInt8) (hl : ∀ c ∈ l, digB c = true) (n : Nat) (b : Bool), n ≤ 999999999999 →
    (∃ k : Nat, (numF l n b).1 = (k : Int) ∧ k ≤ 999999999999) ∧ ((numF l n b).2 = true → b = true ∨ 999999999999 < val l n) ∧ ((numF l n b).2 = false → b = false ∧ (numF l n b).1 = (val l n : Nat))
  | [], hl, n, b, hn => ⟨⟨n, rfl, hn⟩, fun h => .inl h, fun h => ⟨h, rfl⟩⟩
  | c :: r, hl, n, b, hn => by
    have hc := dig_bd (hl c (List.mem_cons_self ..))
    have hr : ∀ c ∈ r, digB c = true := fun d hd => hl d (List.mem_cons_of_mem _ hd)
    simp only [numF, val]
    by_cases hb : 99999999999 < (n : Int)
    · rw [if_pos hb, decide_eq_true hb, Bool.or_true]
      have e : (10 * 0 + ((c.toNat : Int) - 48)) = ((c.toNat - 48 : Nat) : Int) := by omega
      rw [e]
      obtain ⟨h1, h2, h3⟩ := numF_val r hr (c.toNat - 48) true (by omega)
      have hv := val_ge r (n * 10 + (c.toNat - 48))
      exact ⟨h1, fun _ => .inr (by omega), fun h => by rw [numF_true] at h; cases h⟩
    · rw [if_neg hb, decide_eq_false hb, Bool.or_false]
      have e : (10 * (n : Int) + ((c.toNat : Int) - 48)) = ((n * 10 + (c.toNat - 48) : Nat) : Int) := by omega
      rw [e]
      exact numF_val r hr (n * 10 + (c.toNat - 48)) b (by omega)
theorem parse_val (M : Nat) (hM : M = 18446744073709551615) : ∀ (l : List UInt8) (hl : ∀ c ∈ l, digB c = true) (a : Nat), a ≤ M → parseUintM M a l = if val l a ≤ M then .ok (val l a) else .range
  | [], hl, a, ha => by rw [val, if_pos ha]; rfl
  | c :: r, hl, a, ha => by
    have hc := dig_bd (hl c (List.mem_cons_self ..))
    have hr : ∀ c ∈ r, digB c = true := fun d hd => hl d (List.mem_cons_of_mem _ hd)
    have hv := val_ge r (a * 10 + (c.toNat - 48))
    rw [parseUintM, if_pos hc, val]
    by_cases h1 : 1844674407370955162 ≤ a
    · rw [if_pos h1, if_neg (by omega)]
    rw [if_neg h1]
    by_cases h2 : M < a * 10 + (c.toNat - 48)
    · rw [if_pos h2, if_neg (by omega)]
    rw [if_neg h2]
    exact parse_val M hM r hr _ (by omega)
theorem parseB_val (l : List UInt8) (hl : ∀ c ∈ l, digB c = true) (h0 : l ≠ []) : parseUintB 64 l = if val l 0 ≤ 18446744073709551615 then .ok (val l 0) else .range := by
  unfold parseUintB
  rw [if_neg h0]
  exact parse_val _ (by decide) l hl 0 (by omega)
/-- The number of digits, as it is told: the greatest, if it is too great. -/
theorem numT_pos (l : List UInt8) (hl : ∀ c ∈ l, digB c = true) (h0 : l ≠ []) : numT l = if val l 0 ≤ 9223372036854775807 then (val l 0 : Int) else 9223372036854775807 := by
  cases l with
  | nil => exact absurd rfl h0
  | cons c r =>
    have hc := dig_bd (hl c (List.mem_cons_self ..))
    unfold numT
    rw [Go.Lib.parseIntB_plain 64 c r (by omega) (by omega), parseB_val _ hl h0]
    have hs : Go.Lib.intSat 64 (c :: r) = 9223372036854775807 := by rw [Go.Lib.intSat_other 64 c r (by omega)]; decide
    obtain ⟨v, hv⟩ : ∃ v, val (c :: r) 0 = v := ⟨_, rfl⟩
    rw [hv]
    by_cases h1 : v ≤ 18446744073709551615
    · rw [if_pos h1]
      simp only [Go.Lib.signlessC]
      by_cases h2 : 2 ^ (64 - 1) ≤ v
      · rw [if_pos h2, if_neg (by omega)]
        exact hs
      · rw [if_neg h2, if_pos (by omega)]
    · rw [if_neg h1, if_neg (by omega)]
      exact hs
theorem numT_neg (l : List UInt8) (hl : ∀ c ∈ l, digB c = true) (h0 : l ≠ []) : numT (45 :: l) = if val l 0 ≤ 9223372036854775808 then -(val l 0 : Int) else -9223372036854775808 := by
  unfold numT
  rw [Go.Lib.parseIntB_minus, parseB_val _ hl h0]
  have hs : Go.Lib.intSat 64 (45 :: l) = -9223372036854775808 := by rw [Go.Lib.intSat_minus]; decide
  obtain ⟨v, hv⟩ : ∃ v, val l 0 = v := ⟨_, rfl⟩
  rw [hv]
  by_cases h1 : v ≤ 18446744073709551615
  · rw [if_pos h1]
    simp only [Go.Lib.signedC]
    by_cases h2 : 2 ^ (64 - 1) < v
    · rw [if_pos h2, if_neg (by omega)]
      exact hs
    · rw [if_neg h2, if_pos (by omega)]
  · rw [if_neg h1, if_neg (by omega)]
    exact hs
theorem parse_num (l : List UInt8) (sg : Nat) (hsg : sg = if l.head? = some 45 then 1 else 0) (hl : ∀ c ∈ l.drop sg, digB c = true) (h0 : l.drop sg ≠ []) : parseIntB 64 l ≠ .syntax := by
  by_cases h45 : l.head? = some 45
  · rw [if_pos h45] at hsg
    subst hsg
    cases l with
    | nil => cases h45
    | cons c r =>
      simp only [List.head?_cons, Option.some.injEq] at h45
      subst h45
      simp only [List.drop_succ_cons, List.drop_zero] at hl h0
      rw [Go.Lib.parseIntB_minus, parseB_val _ hl h0]
      split
      · simp only [Go.Lib.signedC]
        split <;> (intro h; cases h)
      · intro h; cases h
  · rw [if_neg h45] at hsg
    subst hsg
    rw [List.drop_zero] at hl h0
    cases l with
    | nil => exact absurd rfl h0
    | cons c r =>
      have hc := dig_bd (hl c (List.mem_cons_self ..))
      rw [Go.Lib.parseIntB_plain 64 c r (by omega) (by omega), parseB_val _ hl h0]
      split
      · simp only [Go.Lib.signlessC]
        split <;> (intro h; cases h)
      · intro h; cases h
def kd (k : Nat) : Nat := [119, 110, 44, 58, 40, 41, 113].getD k 0
/-- A token of the program and one of the document are one. -/
structure TkR (t : Tk) (d : Dt) : Prop where
  lt : t.k < 7
  k : d.k = kd t.k
  s : t.s = d.s
  w : t.k = 0 → t.s ≠ []
  o : t.k ≠ 0 → t.k ≠ 6 → t.s = []
  n0 : t.k ≠ 1 → d.n = 0 ∧ t.n = 0
  n : d.big = false → t.n = d.n
  b : d.big = true → t.n < -2147483648 ∨ 4294967295 < t.n
  lo : -999999999999 ≤ d.n
  hi : d.n ≤ 999999999999
theorem num_rel (l : List UInt8) (sg : Nat) (hsg : sg = if l.head? = some 45 then 1 else 0) (hl : ∀ c ∈ l.drop sg, digB c = true) (h0 : l.drop sg ≠ []) : TkR ⟨1, [], numT l⟩ (numD l) := by
  by_cases h45 : l.head? = some 45
  · rw [if_pos h45] at hsg
    subst hsg
    cases l with
    | nil => cases h45
    | cons c r =>
      simp only [List.head?_cons, Option.some.injEq] at h45
      subst h45
      simp only [List.drop_succ_cons, List.drop_zero] at hl h0
      obtain ⟨⟨k, hk, hk1⟩, h1, h2⟩ := numF_val r hl 0 false (by omega)
      have hn := numT_neg r hl h0
      have hd : numD (45 :: r) = ⟨110, [], -(numF r 0 false).1, (numF r 0 false).2⟩ := rfl
      rw [hd, hn]
      have h1' := fun h => h1 h
      have h2' := fun h => h2 h
      simp only [Int.natCast_zero] at hk h1' h2'
      refine ⟨by show 1 < 7; decide, rfl, rfl, (fun h => by cases h), fun _ _ => rfl, fun h => absurd rfl h, fun h => ?_, fun h => ?_, ?_, ?_⟩
      · have g := (h2' h).2
        rw [hk] at g
        show (if _ then _ else _) = -(numF r 0 false).1
        rw [hk, if_pos (by omega)]
        omega
      · have g := (h1' h).resolve_left (by decide)
        left
        show (if val r 0 ≤ 9223372036854775808 then -(val r 0 : Int) else -9223372036854775808) < _
        have g' : (999999999999 : Nat) < val r 0 := g
        split <;> omega
      · show _ ≤ -(numF r 0 false).1
        rw [hk]; omega
      · show -(numF r 0 false).1 ≤ _
        rw [hk]; omega
  · rw [if_neg h45] at hsg
    subst hsg
    rw [List.drop_zero] at hl h0
    obtain ⟨⟨k, hk, hk1⟩, h1, h2⟩ := numF_val l hl 0 false (by omega)
    have hn := numT_pos l hl h0
    have hd : numD l = ⟨110, [], (numF l 0 false).1, (numF l 0 false).2⟩ := by unfold numD; rw [if_neg h45]
    rw [hd, hn]
    simp only [Int.natCast_zero] at hk h1 h2
    refine ⟨by show 1 < 7; decide, rfl, rfl, (fun h => by cases h), fun _ _ => rfl, fun h => absurd rfl h, fun h => ?_, fun h => ?_, ?_, ?_⟩
    · have g := (h2 h).2
      rw [hk] at g
      show (if _ then _ else _) = (numF l 0 false).1
      rw [hk, if_pos (by omega)]
      omega
    · have g := (h1 h).resolve_left (by decide)
      right
      show _ < (if val l 0 ≤ 9223372036854775807 then (val l 0 : Int) else 9223372036854775807)
      split <;> omega
    · show _ ≤ (numF l 0 false).1
      rw [hk]; omega
    · show (numF l 0 false).1 ≤ _
      rw [hk]; omega
theorem span_take (p : UInt8 → Bool) : ∀ l : List UInt8, ∀ c ∈ l.take (spanN p l), p c = true
  | [], c, h => by simp at h
  | d :: r, c, h => by
    simp only [spanN] at h
    split at h
    · next hd =>
      rw [List.take_succ_cons, List.mem_cons] at h
      rcases h with rfl | h
      · exact hd
      · exact span_take p r c h
    · simp at h
theorem tok_rel (l : List UInt8) : match tokN l with
    | none => tokD l = none
    | some (t, n) => ∃ d, tokD l = some (d, n) ∧ TkR t d := by
  cases l with
  | nil => rfl
  | cons c r =>
    simp only [tokN, tokD]
    have hm : markN c = if c.toNat = 44 then some 2 else if c.toNat = 58 then some 3 else if c.toNat = 40 then some 4 else if c.toNat = 41 then some 5 else none := rfl
    by_cases h44 : c.toNat = 44
    · rw [hm, if_pos h44]
      simp only
      rw [if_pos (show c.toNat = 44 ∨ c.toNat = 58 ∨ c.toNat = 40 ∨ c.toNat = 41 from .inl h44)]
      exact ⟨_, rfl, of_decide_eq_true rfl, h44, rfl, of_decide_eq_true rfl, fun _ _ => rfl, fun _ => ⟨rfl, rfl⟩, fun _ => rfl, (by intro h; cases h), (of_decide_eq_true rfl), (of_decide_eq_true rfl)⟩
    by_cases h58 : c.toNat = 58
    · rw [hm, if_neg h44, if_pos h58]
      simp only
      rw [if_pos (show c.toNat = 44 ∨ c.toNat = 58 ∨ c.toNat = 40 ∨ c.toNat = 41 from .inr (.inl h58))]
      exact ⟨_, rfl, of_decide_eq_true rfl, h58, rfl, of_decide_eq_true rfl, fun _ _ => rfl, fun _ => ⟨rfl, rfl⟩, fun _ => rfl, (by intro h; cases h), (of_decide_eq_true rfl), (of_decide_eq_true rfl)⟩
    by_cases h40 : c.toNat = 40
    · rw [hm, if_neg h44, if_neg h58, if_pos h40]
      simp only
      rw [if_pos (show c.toNat = 44 ∨ c.toNat = 58 ∨ c.toNat = 40 ∨ c.toNat = 41 from .inr (.inr (.inl h40)))]
      exact ⟨_, rfl, of_decide_eq_true rfl, h40, rfl, of_decide_eq_true rfl, fun _ _ => rfl, fun _ => ⟨rfl, rfl⟩, fun _ => rfl, (by intro h; cases h), (of_decide_eq_true rfl), (of_decide_eq_true rfl)⟩
    by_cases h41 : c.toNat = 41
    · rw [hm, if_neg h44, if_neg h58, if_neg h40, if_pos h41]
      simp only
      rw [if_pos (show c.toNat = 44 ∨ c.toNat = 58 ∨ c.toNat = 40 ∨ c.toNat = 41 from .inr (.inr (.inr h41)))]
      exact ⟨_, rfl, of_decide_eq_true rfl, h41, rfl, of_decide_eq_true rfl, fun _ _ => rfl, fun _ => ⟨rfl, rfl⟩, fun _ => rfl, (by intro h; cases h), (of_decide_eq_true rfl), (of_decide_eq_true rfl)⟩
    rw [hm, if_neg h44, if_neg h58, if_neg h40, if_neg h41, if_neg (show ¬ (c.toNat = 44 ∨ c.toNat = 58 ∨ c.toNat = 40 ∨ c.toNat = 41) by omega)]
    simp only
    by_cases h34 : c.toNat = 34
    · have hl : letB c = false := by unfold letB; rw [h34]; decide
      rw [hl, if_pos h34, if_pos h34]
      simp only [Bool.false_eq_true, if_false]
      rcases quo r with _ | ⟨b, n⟩
      · rfl
      · exact ⟨_, rfl, of_decide_eq_true rfl, rfl, rfl, (by intro h; cases h), (by intro h h'; exact absurd rfl h'), fun _ => ⟨rfl, rfl⟩, fun _ => rfl, (by intro h; cases h), (of_decide_eq_true rfl), (of_decide_eq_true rfl)⟩
    rw [if_neg h34, if_neg h34]
    by_cases hl : letB c = true
    · rw [if_pos hl, if_pos hl]
      refine ⟨_, rfl, of_decide_eq_true rfl, rfl, rfl, fun _ => ?_, (by intro h; exact absurd rfl h), fun _ => ⟨rfl, rfl⟩, fun _ => rfl, (by intro h; cases h), (of_decide_eq_true rfl), (of_decide_eq_true rfl)⟩
      have : lodB c = true := by unfold lodB; rw [hl]; rfl
      simp [spanN, this]
    rw [if_neg hl, if_neg hl]
    obtain ⟨sg, hsg⟩ : ∃ sg, (if c.toNat = 45 then 1 else 0) = sg := ⟨_, rfl⟩
    rw [hsg]
    have h45 : (c.toNat = 45) ↔ c = 45 := ⟨fun h => UInt8.toNat.inj h, fun h => by rw [h]; rfl⟩
    by_cases hd : spanN digB ((c :: r).drop sg) = 0
    · rw [if_pos hd, if_pos hd]
    rw [if_neg hd, if_neg hd]
    refine ⟨_, rfl, ?_⟩
    have hsp := span_take digB ((c :: r).drop sg)
    have hle := span_le digB ((c :: r).drop sg)
    obtain ⟨m, hm⟩ : ∃ m, spanN digB ((c :: r).drop sg) = m := ⟨_, rfl⟩
    rw [hm] at hd hsp hle ⊢
    refine num_rel _ sg ?_ ?_ ?_
    · obtain ⟨q, hq⟩ : ∃ q, sg + m = q + 1 := ⟨sg + m - 1, by omega⟩
      rw [hq, ← hsg, List.take_succ_cons, List.head?_cons]
      by_cases hc : c = 45
      · subst hc; rfl
      · rw [if_neg (fun h => hc (h45.1 h)), if_neg (by intro h; injection h with h; exact hc h)]
    · rw [List.drop_take, Nat.add_sub_cancel_left]
      exact hsp
    · rw [List.drop_take, Nat.add_sub_cancel_left]
      intro h
      have := congrArg List.length h
      rw [List.length_take, List.length_nil] at this
      omega
theorem num_signs (l : List UInt8) (c : UInt8) (r : List UInt8) (hc : l = c :: r) (sg m : Nat) (hsg : sg = if c.toNat = 45 then 1 else 0) (hm : m = spanN digB (l.drop sg)) (h0 : m ≠ 0) :
    (sg = if (l.take (sg + m)).head? = some 45 then 1 else 0) ∧ (∀ c ∈ (l.take (sg + m)).drop sg, digB c = true) ∧ (l.take (sg + m)).drop sg ≠ [] := by
  subst hc
  have h45 : (c.toNat = 45) ↔ c = 45 := ⟨fun h => UInt8.toNat.inj h, fun h => by rw [h]; rfl⟩
  have hsp := span_take digB ((c :: r).drop sg)
  have hle := span_le digB ((c :: r).drop sg)
  rw [← hm] at hsp hle
  refine ⟨?_, ?_, ?_⟩
  · obtain ⟨q, hq⟩ : ∃ q, sg + m = q + 1 := ⟨sg + m - 1, by omega⟩
    rw [hq, hsg, List.take_succ_cons, List.head?_cons]
    by_cases hc : c = 45
    · subst hc; rfl
    · rw [if_neg (fun h => hc (h45.1 h)), if_neg (by intro h; injection h with h; exact hc h)]
  · rw [List.drop_take, Nat.add_sub_cancel_left]
    exact hsp
  · rw [List.drop_take, Nat.add_sub_cancel_left]
    intro h
    have := congrArg List.length h
    rw [List.length_take, List.length_nil] at this
    omega
def TksR : List Tk → List Dt → Prop
  | [], [] => True
  | t :: a, d :: b => TkR t d ∧ TksR a b
  | _, _ => False
theorem toksF_rel : ∀ (f : Nat) (l : List UInt8), match toksF f l with
    | none => toksDF f l = none
    | some a => ∃ b, toksDF f l = some b ∧ TksR a b
  | 0, l => ⟨[], rfl, trivial⟩
  | f + 1, [] => ⟨[], rfl, trivial⟩
  | f + 1, c :: r => by
    simp only [toksF, toksDF]
    by_cases h35 : c.toNat = 35
    · rw [if_pos h35, if_pos h35]
      exact ⟨[], rfl, trivial⟩
    rw [if_neg h35, if_neg h35]
    by_cases h32 : c.toNat = 32 ∨ c.toNat = 9
    · rw [if_pos h32, if_pos h32]
      exact toksF_rel f r
    rw [if_neg h32, if_neg h32]
    have h := tok_rel (c :: r)
    rcases hN : tokN (c :: r) with _ | ⟨t, n⟩
    · rw [hN] at h
      rw [h]
    · rw [hN] at h
      obtain ⟨d, hd, hr⟩ := h
      rw [hd]
      simp only
      have ih := toksF_rel f ((c :: r).drop n)
      rcases hT : toksF f ((c :: r).drop n) with _ | a
      · rw [hT] at ih
        simp only at ih
        rw [ih]
        rfl
      · rw [hT] at ih
        obtain ⟨b, hb, hab⟩ := ih
        rw [hb]
        exact ⟨_, rfl, hr, hab⟩
theorem toks_rel (l : List UInt8) : match toks l with
    | none => toksD l = none
    | some a => ∃ b, toksD l = some b ∧ TksR a b := toksF_rel l.length l
theorem TksR.len : ∀ {a : List Tk} {b : List Dt}, TksR a b → a.length = b.length
  | [], [], _ => rfl
  | _ :: a, _ :: b, h => by simp [TksR.len h.2]
  | [], _ :: _, h => h.elim
  | _ :: _, [], h => h.elim
theorem TksR.kinds : ∀ {a : List Tk} {b : List Dt}, TksR a b → dk b = a.map (fun t => kd t.k)
  | [], [], _ => rfl
  | _ :: a, _ :: b, h => by simp only [dk, List.map_cons]; rw [h.1.k]; congr 1; exact TksR.kinds h.2
  | [], _ :: _, h => h.elim
  | _ :: _, [], h => h.elim
end Go.Proofs.YtmmnkoeajdeldaaGreatDoor.Pl
