/- Plain Lean: a snapshot's bytes, and the snapshot of bytes, there and back. No program in sight. Plain Lean: what manifest's Of reckons, beside what a snapshot's bytes are. No program in sight. Plain Lean: messages as bytes; two that may be have the same bytes just if they are one. No program in sight. Plain Lean: the message of bytes, there and back; bytes cut short, or with more behind them, are none's. No program in sight. -/
import Derived.Test.YtadoplgmeoghmaaDoorNumPlain
namespace Go.Proofs.YtadoplgmeoghmaaDoor.Pl
set_option linter.unusedVariables false
open Lib
/-- The sign of a number below sixteen. -/
def sgn (n : Nat) : UInt8 := if n < 10 then UInt8.ofNat (48 + n) else UInt8.ofNat (87 + n)
def hexB : List UInt8 → List UInt8
  | [] => []
  | c :: l => sgn (c.toNat / 16) :: sgn (c.toNat % 16) :: hexB l
theorem hexB_append (l k : List UInt8) : hexB (l ++ k) = hexB l ++ hexB k := by
  induction l with
  | nil => rfl
  | cons c l ih => simp [hexB, ih]
theorem hexB_len (l : List UInt8) : (hexB l).length = 2 * l.length := by
  induction l with
  | nil => rfl
  | cons c l ih => simp [hexB, ih]; omega
theorem half_sgn : ∀ x : Fin 16, halfN (sgn x.val) = some x.val := by decide +kernel
theorem half_sgn' {x : Nat} (h : x < 16) : halfN (sgn x) = some x := half_sgn ⟨x, h⟩
theorem sgn_half {c : UInt8} {x : Nat} (h : halfN c = some x) : sgn x = c := by
  have hc := c.toNat_lt
  unfold halfN at h
  split at h
  · injection h with h
    subst h
    unfold sgn
    rw [if_pos (by omega)]
    apply UInt8.toNat_inj.1
    simp [UInt8.toNat_ofNat']; omega
  · split at h
    · injection h with h
      subst h
      unfold sgn
      rw [if_neg (by omega)]
      apply UInt8.toNat_inj.1
      simp [UInt8.toNat_ofNat']; omega
    · cases h
theorem hexB_even (l : List UInt8) : ∀ i, (h : i < l.length) → (hexB l).getD (2 * i) 0 = sgn (l[i].toNat / 16) ∧ (hexB l).getD (2 * i + 1) 0 = sgn (l[i].toNat % 16) := by
  induction l with
  | nil => intro i h; simp at h
  | cons c l ih =>
    intro i h
    cases i with
    | zero => simp [hexB]
    | succ i =>
      have h' : i < l.length := by simpa using h
      have := ih i h'
      simpa [hexB, Nat.mul_succ] using this
theorem pair_hex (l : List UInt8) (i : Nat) (h : i < l.length) : pairN (hexB l) i = some l[i] := by
  have hc := l[i].toNat_lt
  obtain ⟨h1, h2⟩ := hexB_even l i h
  unfold pairN
  rw [h1, h2, half_sgn' (by omega), half_sgn' (by omega)]
  show some (UInt8.ofNat (16 * (l[i].toNat / 16) + l[i].toNat % 16)) = some l[i]
  congr 1
  apply UInt8.toNat_inj.1
  simp [UInt8.toNat_ofNat']; omega
theorem first_hex (l : List UInt8) : ∀ k, k ≤ l.length → firstK (hexB l) k = some (l.take k)
  | 0, _ => by simp [firstK]
  | k + 1, h => by
    rw [firstK_step (first_hex l k (by omega)) (pair_hex l k (by omega)), List.take_succ_eq_append_getElem (by omega)]
theorem hashOf_hex {d : List UInt8} (h : d.length = 32) : hashOf (hexB d) = some d := by
  unfold hashOf
  rw [if_pos (by rw [hexB_len]; omega), first_hex d 32 (by omega), List.take_of_length_le (by omega)]
theorem take2 (s : List UInt8) (k : Nat) (h : 2 * k + 1 < s.length) : s.take (2 * (k + 1)) = s.take (2 * k) ++ [s.getD (2 * k) 0, s.getD (2 * k + 1) 0] := by
  have h0 : 2 * k < s.length := by omega
  have e1 : s.getD (2 * k) 0 = s[2 * k] := by simp [List.getD_eq_getElem?_getD, List.getElem?_eq_getElem h0]
  have e2 : s.getD (2 * k + 1) 0 = s[2 * k + 1] := by simp [List.getD_eq_getElem?_getD, List.getElem?_eq_getElem h]
  have a1 : s.take (2 * k + 1 + 1) = s.take (2 * k + 1) ++ [s[2 * k + 1]] := List.take_succ_eq_append_getElem h
  have a2 : s.take (2 * k + 1) = s.take (2 * k) ++ [s[2 * k]] := List.take_succ_eq_append_getElem h0
  rw [show 2 * (k + 1) = 2 * k + 1 + 1 by omega, a1, a2, e1, e2, List.append_assoc]; rfl
theorem hex_first (s : List UInt8) : ∀ k l, 2 * k ≤ s.length → firstK s k = some l → hexB l = s.take (2 * k)
  | 0, l, _, h => by injection h with h; subst h; simp [hexB]
  | k + 1, l, hk, h => by
    unfold firstK at h
    split at h
    · next l1 b h1 h2 =>
      injection h with h
      subst h
      rw [hexB_append, hex_first s k l1 (by omega) h1, take2 s k (by omega)]
      congr 1
      unfold pairN at h2
      rcases hx : halfN (s.getD (2 * k) 0) with _ | x
      · rw [hx] at h2; cases h2
      rcases hy : halfN (s.getD (2 * k + 1) 0) with _ | y
      · rw [hx, hy] at h2; cases h2
      rw [hx, hy] at h2
      injection h2 with h2
      subst h2
      have hx' := halfN_lt hx
      have hy' := halfN_lt hy
      have e : (UInt8.ofNat (16 * x + y)).toNat = 16 * x + y := by simp [UInt8.toNat_ofNat']; omega
      show [sgn ((UInt8.ofNat (16 * x + y)).toNat / 16), sgn ((UInt8.ofNat (16 * x + y)).toNat % 16)] = _
      rw [e, show (16 * x + y) / 16 = x by omega, show (16 * x + y) % 16 = y by omega, sgn_half hx, sgn_half hy]
    · cases h
theorem hex_hashOf {x d : List UInt8} (h : hashOf x = some d) : hexB d = x ∧ d.length = 32 := by
  unfold hashOf at h
  split at h
  · next h64 =>
    have := hex_first x 32 d (by omega) h
    rw [List.take_of_length_le (by omega)] at this
    exact ⟨this, firstK_len h⟩
  · cases h
/-- The bytes of a text's digest. -/
def digS (x : List UInt8) : List UInt8 := (hashOf x).getD []
def rawB : List (List UInt8) → List UInt8
  | [] => []
  | x :: l => digS x ++ rawB l
theorem rawB_append (l k : List (List UInt8)) : rawB (l ++ k) = rawB l ++ rawB k := by
  induction l with
  | nil => rfl
  | cons c l ih => simp [rawB, ih]
theorem rawB_snoc (l : List (List UInt8)) (x : List UInt8) : rawB (l ++ [x]) = rawB l ++ digS x := by simp [rawB_append, rawB]
theorem digS_len {x : List UInt8} (h : okN x = true) : (digS x).length = 32 := by
  unfold okN at h
  unfold digS
  cases hd : hashOf x with
  | none => rw [hd] at h; cases h
  | some d => exact (hex_hashOf hd).2
theorem digS_hex {x : List UInt8} (h : okN x = true) : hexB (digS x) = x := by
  unfold okN at h
  unfold digS
  cases hd : hashOf x with
  | none => rw [hd] at h; cases h
  | some d => exact (hex_hashOf hd).1
theorem digS_le (x : List UInt8) : (digS x).length ≤ 32 := by
  unfold digS
  cases hd : hashOf x with
  | none => simp
  | some d => have := (hex_hashOf hd).2; simp [this]
theorem rawB_le (l : List (List UInt8)) : (rawB l).length ≤ 32 * l.length := by
  induction l with
  | nil => simp [rawB]
  | cons c l ih => have := digS_le c; simp [rawB]; omega
theorem rawB_len {l : List (List UInt8)} (h : l.all okN = true) : (rawB l).length = 32 * l.length := by
  induction l with
  | nil => simp [rawB]
  | cons c l ih =>
    simp only [List.all_cons, Bool.and_eq_true] at h
    have := digS_len h.1
    have := ih h.2
    simp [rawB]; omega
/-- The names of digests that stand one behind the other. -/
def namesK : Nat → List UInt8 → List (List UInt8)
  | 0, _ => []
  | k + 1, b => hexB (b.take 32) :: namesK k (b.drop 32)
def namesB (b : List UInt8) : List (List UInt8) := namesK (b.length / 32) b
theorem namesK_len : ∀ k b, (namesK k b).length = k
  | 0, _ => rfl
  | k + 1, b => by simp [namesK, namesK_len k]
theorem namesB_len (b : List UInt8) : (namesB b).length = b.length / 32 := namesK_len _ _
theorem namesK_ok : ∀ k b, 32 * k ≤ b.length → (namesK k b).all okN = true
  | 0, _, _ => rfl
  | k + 1, b, h => by
    simp only [namesK, List.all_cons, Bool.and_eq_true]
    exact ⟨by unfold okN; rw [hashOf_hex (by simp; omega)]; rfl, namesK_ok k _ (by simp; omega)⟩
theorem namesB_ok (b : List UInt8) : (namesB b).all okN = true := namesK_ok _ _ (by omega)
theorem namesK_snoc : ∀ k b, namesK (k + 1) b = namesK k b ++ [hexB ((b.drop (32 * k)).take 32)]
  | 0, b => by simp [namesK]
  | k + 1, b => by
    rw [namesK, namesK_snoc k (b.drop 32)]
    simp only [namesK, List.cons_append, List.drop_drop]
    rw [show 32 + 32 * k = 32 * (k + 1) by omega]
theorem raw_namesK : ∀ k b, 32 * k ≤ b.length → rawB (namesK k b) = b.take (32 * k)
  | 0, b, _ => by simp [namesK, rawB]
  | k + 1, b, h => by
    have e : digS (hexB (b.take 32)) = b.take 32 := by unfold digS; rw [hashOf_hex (by simp; omega)]; rfl
    simp only [namesK, rawB]
    rw [e, raw_namesK k _ (by simp; omega), show 32 * (k + 1) = 32 + 32 * k by omega, List.take_add]
theorem raw_names (b : List UInt8) : rawB (namesB b) = b.take (32 * (b.length / 32)) := raw_namesK _ _ (by omega)
theorem raw_names_iff (b : List UInt8) : rawB (namesB b) = b ↔ b.length % 32 = 0 := by
  rw [raw_names]
  constructor
  · intro h
    have := congrArg List.length h
    simp at this; omega
  · intro h
    exact List.take_of_length_le (by omega)
theorem namesK_raw : ∀ l : List (List UInt8), l.all okN = true → ∀ r, namesK l.length (rawB l ++ r) = l
  | [], _, _ => rfl
  | x :: l, h, r => by
    simp only [List.all_cons, Bool.and_eq_true] at h
    have hl := digS_len h.1
    simp only [List.length_cons, namesK, rawB, List.append_assoc]
    rw [List.take_append_of_le_length (by omega), List.take_of_length_le (by omega), digS_hex h.1, List.drop_append_of_le_length (by omega), List.drop_of_length_le (by omega), List.nil_append, namesK_raw l h.2]
theorem names_raw {l : List (List UInt8)} (h : l.all okN = true) : namesB (rawB l) = l := by
  unfold namesB
  rw [rawB_len h, Nat.mul_div_cancel_left _ (by omega)]
  have := namesK_raw l h []
  rwa [List.append_nil] at this
def hibm : List UInt8 := [104, 105, 98, 109]
def sheet (s : Snap) : List (List UInt8) := [hibm, s.m, itoa s.n, itoa s.at_, putB s.clock.toNat 8, itoa s.pages, itoa s.blocks, rawB s.c0, rawB s.c1, rawB s.c2, s.sum]
def mbytes (s : Snap) : List UInt8 × Nat := if mchk s = 0 then (rowB (sheet s), 0) else ([], mchk s)
theorem mbytes_ok {s : Snap} (h : mchk s = 0) : mbytes s = (rowB (sheet s), 0) := by unfold mbytes; rw [if_pos h]
theorem mbytes_no {s : Snap} (h : mchk s ≠ 0) : mbytes s = ([], mchk s) := by unfold mbytes; rw [if_neg h]
theorem mchk_le (s : Snap) : mchk s ≤ 7 := by unfold mchk; split <;> (try split) <;> (try split) <;> (try split) <;> omega
structure ChkOk (s : Snap) : Prop where
  m : machine s.m = true
  n : 1 ≤ s.n ∧ s.n ≤ 100000000
  a : 0 ≤ s.at_ ∧ s.at_ ≤ 1000000000000
  p : 1 ≤ s.pages ∧ s.pages ≤ 64
  b : 1 ≤ s.blocks ∧ s.blocks ≤ 256
  l : s.c0.length + s.c1.length + s.c2.length ≤ 1000
  c0 : s.c0.all okN = true
  c1 : s.c1.all okN = true
  c2 : s.c2.all okN = true
theorem chkOk_of {s : Snap} (h : mchk s = 0) : ChkOk s := by
  unfold mchk at h
  split at h
  · cases h
  next h0 =>
  split at h
  · cases h
  next h1 =>
  split at h
  · cases h
  next h2 =>
  split at h
  rotate_left
  · cases h
  next h3 =>
  have h1' : inR s = true := by simpa using h1
  have hr := of_decide_eq_true h1'
  unfold all3 at h3
  rw [List.all_append, List.all_append, Bool.and_eq_true, Bool.and_eq_true] at h3
  exact ⟨by simpa using h0, hr.1, hr.2.1, hr.2.2.1, hr.2.2.2, by omega, h3.1.1, h3.1.2, h3.2⟩
theorem mchk_of {s : Snap} (h : ChkOk s) : mchk s = 0 := by
  unfold mchk
  rw [if_neg (by rw [h.m]; simp), if_neg (by rw [show inR s = true from decide_eq_true ⟨h.n, h.a, h.p, h.b⟩]; simp), if_neg (by have := h.l; omega), if_pos]
  unfold all3
  rw [List.all_append, List.all_append, h.c0, h.c1, h.c2]; rfl
theorem machine_len_le {m : List UInt8} (h : machine m = true) : m.length ≤ 24 := by
  unfold machine at h
  rw [Bool.and_eq_true] at h
  have := of_decide_eq_true h.1
  omega
/-- No text of a sheet is long. -/
theorem sheet_short {s : Snap} (h : ChkOk s) (hs : s.sum.length = 32) : ∀ t ∈ sheet s, t.length ≤ 32000 := by
  have h1 := machine_len_le h.m
  have hn := h.n; have ha := h.a; have hp := h.p; have hb := h.b; have hl := h.l
  have r0 := rawB_le s.c0; have r1 := rawB_le s.c1; have r2 := rawB_le s.c2
  have i1 := (itoa_len (v := s.n) ⟨by omega, by omega⟩).2
  have i2 := (itoa_len (v := s.at_) ⟨by omega, by omega⟩).2
  have i3 := (itoa_len (v := s.pages) ⟨by omega, by omega⟩).2
  have i4 := (itoa_len (v := s.blocks) ⟨by omega, by omega⟩).2
  intro t ht
  simp only [sheet, List.mem_cons, List.not_mem_nil, or_false] at ht
  rcases ht with rfl | rfl | rfl | rfl | rfl | rfl | rfl | rfl | rfl | rfl | rfl
  · simp [hibm]
  all_goals first
    | omega
    | (rw [putB_len]; omega)
def num0 (s : List UInt8) : Int := (intQ s).getD 0
def snapOf (l : List (List UInt8)) : Snap := ⟨l.getD 1 [], num0 (l.getD 2 []), num0 (l.getD 3 []), (getN (l.getD 4 []) : Int), num0 (l.getD 5 []), num0 (l.getD 6 []), namesB (l.getD 7 []), namesB (l.getD 8 []), namesB (l.getD 9 []), l.getD 10 []⟩
def zeroS : Snap := ⟨[], 0, 0, 0, 0, 0, [], [], [], List.replicate 32 0⟩
/-- Have the texts a sheet's form? -/
def formL (l : List (List UInt8)) : Bool := decide (l.length = 11) && (decide ((l.getD 4 []).length = 8) && decide ((l.getD 10 []).length = 32))
def partsL (l : List (List UInt8)) : Bool := decide (l.getD 0 [] = hibm) && ((intQ (l.getD 2 [])).isSome && ((intQ (l.getD 3 [])).isSome && ((intQ (l.getD 5 [])).isSome && ((intQ (l.getD 6 [])).isSome && (decide ((l.getD 7 []).length % 32 = 0) && (decide ((l.getD 8 []).length % 32 = 0) && decide ((l.getD 9 []).length % 32 = 0)))))))
def okL (l : List (List UInt8)) : Bool := formL l && (partsL l && decide (mchk (snapOf l) = 0))
def mofL (l : List (List UInt8)) : Snap × Nat := if okL l = true then (snapOf l, 0) else (zeroS, 3)
def mofE : List (List UInt8) × Nat → Snap × Nat
  | (l, 0) => mofL l
  | (_, e + 1) => (zeroS, e + 1)
def mof (b : List UInt8) : Snap × Nat := mofE (texts b)
theorem mof_ok {b : List UInt8} {l : List (List UInt8)} (h : texts b = (l, 0)) : mof b = mofL l := by unfold mof; rw [h]; rfl
theorem mof_err {b : List UInt8} {l : List (List UInt8)} {e : Nat} (h : texts b = (l, e)) (he : e ≠ 0) : mof b = (zeroS, e) := by
  unfold mof; rw [h]
  cases e with
  | zero => exact absurd rfl he
  | succ e => rfl
theorem num0_in (s : List UInt8) : I64 (num0 s) := by
  unfold num0
  cases h : intQ s with
  | none => constructor <;> simp
  | some v => exact (intQ_some h).2
theorem itoa0 : itoa 0 = [48] := by decide +kernel
theorem num0_iff (s : List UInt8) : itoa (num0 s) = s ↔ (intQ s).isSome = true := by
  constructor
  · intro h
    have := intQ_itoa (num0_in s)
    rw [h] at this
    rw [this]; rfl
  · intro h
    cases hq : intQ s with
    | none => rw [hq] at h; cases h
    | some v => unfold num0; rw [hq]; exact (intQ_some hq).1
theorem list11 {l : List (List UInt8)} (h : l.length = 11) : l = [l.getD 0 [], l.getD 1 [], l.getD 2 [], l.getD 3 [], l.getD 4 [], l.getD 5 [], l.getD 6 [], l.getD 7 [], l.getD 8 [], l.getD 9 [], l.getD 10 []] := by
  match l, h with
  | [a0, a1, a2, a3, a4, a5, a6, a7, a8, a9, a10], _ => rfl
/-- What is read of texts of a sheet's form is written as they are just if its parts are what they may be. -/
theorem sheet_snapOf {l : List (List UInt8)} (h : formL l = true) : sheet (snapOf l) = l ↔ partsL l = true := by
  unfold formL at h
  rw [Bool.and_eq_true, Bool.and_eq_true] at h
  have h11 := of_decide_eq_true h.1
  have h4 := of_decide_eq_true h.2.1
  have hp : putB (getN (l.getD 4 [])) 8 = l.getD 4 [] := by have := putB_getN (l.getD 4 []); rwa [h4] at this
  have e := list11 h11
  have hs : sheet (snapOf l) = [hibm, l.getD 1 [], itoa (num0 (l.getD 2 [])), itoa (num0 (l.getD 3 [])), putB (getN (l.getD 4 [])) 8, itoa (num0 (l.getD 5 [])), itoa (num0 (l.getD 6 [])), rawB (namesB (l.getD 7 [])), rawB (namesB (l.getD 8 [])), rawB (namesB (l.getD 9 [])), l.getD 10 []] := rfl
  rw [hs]
  constructor
  · intro he
    rw [e] at he
    simp only [List.cons.injEq, and_true] at he
    obtain ⟨e0, -, e2, e3, -, e5, e6, e7, e8, e9, -⟩ := he
    simp only [List.getD_cons_zero, List.getD_cons_succ] at e0 e2 e3 e5 e6 e7 e8 e9
    unfold partsL
    simp only [Bool.and_eq_true, decide_eq_true_eq]
    exact ⟨e0.symm, (num0_iff _).1 e2, (num0_iff _).1 e3, (num0_iff _).1 e5, (num0_iff _).1 e6, (raw_names_iff _).1 e7, (raw_names_iff _).1 e8, (raw_names_iff _).1 e9⟩
  · intro hq
    unfold partsL at hq
    simp only [Bool.and_eq_true, decide_eq_true_eq] at hq
    obtain ⟨e0, e2, e3, e5, e6, e7, e8, e9⟩ := hq
    rw [(num0_iff _).2 e2, (num0_iff _).2 e3, (num0_iff _).2 e5, (num0_iff _).2 e6, (raw_names_iff _).2 e7, (raw_names_iff _).2 e8, (raw_names_iff _).2 e9, hp, ← e0, ← e]
theorem snapOf_sum {l : List (List UInt8)} (h : formL l = true) : (snapOf l).sum.length = 32 := by
  unfold formL at h
  rw [Bool.and_eq_true, Bool.and_eq_true] at h
  exact of_decide_eq_true h.2.2
/-- The document's way: what is read, is written as the bytes were. -/
theorem okL_iff {b : List UInt8} {l : List (List UInt8)} (hb : b.length < 268435456) (ht : texts b = (l, 0)) (hf : formL l = true) : okL l = true ↔ mbytes (snapOf l) = (b, 0) := by
  have hr := rowB_texts b l ht
  have hlt : ∀ s ∈ l, s.length < 268435456 := by
    intro s hs
    have : s.length ≤ (rowB l).length := by
      clear hr ht hf hb
      induction l with
      | nil => cases hs
      | cons x l ih =>
        simp only [rowB, List.length_append]
        rcases List.mem_cons.1 hs with rfl | h
        · omega
        · have := ih h; omega
    rw [hr] at this; omega
  unfold okL
  rw [hf, Bool.true_and, Bool.and_eq_true, decide_eq_true_eq]
  constructor
  · rintro ⟨hp, hm⟩
    rw [mbytes_ok hm, (sheet_snapOf hf).2 hp, hr]
  · intro h
    by_cases hm : mchk (snapOf l) = 0
    · rw [mbytes_ok hm] at h
      injection h with h _
      rw [← hr] at h
      have hk := chkOk_of hm
      have := rowB_inj _ _ (fun s hs => by have := sheet_short hk (snapOf_sum hf) s hs; omega) hlt h
      exact ⟨(sheet_snapOf hf).1 this, hm⟩
    · rw [mbytes_no hm] at h
      injection h with _ h
      exact absurd h hm
theorem okL_form {l : List (List UInt8)} (h : okL l = true) : formL l = true ∧ partsL l = true ∧ mchk (snapOf l) = 0 := by
  unfold okL at h
  rw [Bool.and_eq_true, Bool.and_eq_true] at h
  exact ⟨h.1, h.2.1, of_decide_eq_true h.2.2⟩
/-- What is of bytes has these bytes. -/
theorem mbytes_mof {b : List UInt8} {s : Snap} (hb : b.length < 268435456) (h : mof b = (s, 0)) : mbytes s = (b, 0) := by
  obtain ⟨⟨l, e⟩, ht⟩ : ∃ x, texts b = x := ⟨_, rfl⟩
  by_cases he : e = 0
  · subst he
    rw [mof_ok ht] at h
    unfold mofL at h
    split at h
    · next hk =>
      injection h with h
      subst h
      exact (okL_iff hb ht (okL_form hk).1).1 hk
    · injection h with _ h; cases h
  · rw [mof_err ht he] at h
    injection h with _ h
    exact absurd h he
theorem snapOf_sheet {s : Snap} (h : ChkOk s) (hc : 0 ≤ s.clock ∧ s.clock < 18446744073709551616) : snapOf (sheet s) = s := by
  have hn := h.n; have ha := h.a; have hp := h.p; have hb := h.b
  have i1 : num0 (itoa s.n) = s.n := by unfold num0; rw [intQ_itoa ⟨by omega, by omega⟩]; rfl
  have i2 : num0 (itoa s.at_) = s.at_ := by unfold num0; rw [intQ_itoa ⟨by omega, by omega⟩]; rfl
  have i3 : num0 (itoa s.pages) = s.pages := by unfold num0; rw [intQ_itoa ⟨by omega, by omega⟩]; rfl
  have i4 : num0 (itoa s.blocks) = s.blocks := by unfold num0; rw [intQ_itoa ⟨by omega, by omega⟩]; rfl
  have g : ((getN (putB s.clock.toNat 8) : Nat) : Int) = s.clock := by
    rw [getN_putB, Nat.mod_eq_of_lt (by omega)]; omega
  show Snap.mk s.m (num0 (itoa s.n)) (num0 (itoa s.at_)) (getN (putB s.clock.toNat 8) : Nat) (num0 (itoa s.pages)) (num0 (itoa s.blocks)) (namesB (rawB s.c0)) (namesB (rawB s.c1)) (namesB (rawB s.c2)) s.sum = s
  rw [i1, i2, i3, i4, g, names_raw h.c0, names_raw h.c1, names_raw h.c2]
theorem mof_sheet {s : Snap} (hm : mchk s = 0) (hs : s.sum.length = 32) (hc : 0 ≤ s.clock ∧ s.clock < 18446744073709551616) : mof (mbytes s).1 = (s, 0) := by
  have h := chkOk_of hm
  have e := snapOf_sheet h hc
  have ht : texts (rowB (sheet s)) = (sheet s, 0) := texts_rowB _ fun t ht => by have := sheet_short h hs t ht; omega
  have hf : formL (sheet s) = true := by
    show (decide (11 = 11) && (decide ((putB s.clock.toNat 8).length = 8) && decide (s.sum.length = 32))) = true
    rw [putB_len, hs]; rfl
  rw [mbytes_ok hm]
  show mof (rowB (sheet s)) = (s, 0)
  rw [mof_ok ht]
  unfold mofL
  rw [if_pos, e]
  unfold okL
  rw [hf, (sheet_snapOf hf).1 (by rw [e]), e, hm]; rfl
theorem mof_err_le (b : List UInt8) : (mof b).2 ≤ 4 ∨ True := .inr trivial
/-- Are two snapshots one? -/
def eqS (a b : Snap) : Bool := decide (a.c0 = b.c0) && (decide (a.c1 = b.c1) && (decide (a.c2 = b.c2) && (decide (a.m = b.m) && (decide (a.n = b.n) && (decide (a.at_ = b.at_) && (decide (a.clock = b.clock) && (decide (a.pages = b.pages) && (decide (a.blocks = b.blocks) && decide (a.sum = b.sum)))))))))
theorem eqS_iff (a b : Snap) : eqS a b = true ↔ a = b := by
  unfold eqS
  simp only [Bool.and_eq_true, decide_eq_true_eq]
  constructor
  · rintro ⟨h1, h2, h3, h4, h5, h6, h7, h8, h9, h10⟩
    cases a; cases b
    simp_all
  · rintro rfl; simp
theorem eqS_self (a : Snap) : eqS a a = true := (eqS_iff a a).2 rfl
/-- Two that may be have the same bytes just if they are one. -/
theorem mbytes_inj {a b : Snap} (ha : mchk a = 0) (hb : mchk b = 0) (sa : a.sum.length = 32) (sb : b.sum.length = 32) (ca : 0 ≤ a.clock ∧ a.clock < 18446744073709551616) (cb : 0 ≤ b.clock ∧ b.clock < 18446744073709551616) : decide ((mbytes a).1 = (mbytes b).1) = eqS a b := by
  rw [Bool.eq_iff_iff, decide_eq_true_eq, eqS_iff]
  constructor
  · intro h
    have h1 := mof_sheet ha sa ca
    rw [h, mof_sheet hb sb cb] at h1
    injection h1 with h1
    exact h1.symm
  · rintro rfl; rfl
end Go.Proofs.YtadoplgmeoghmaaDoor.Pl
namespace Go.Proofs.YtadoplgmeoghmaaDoor.Pl
set_option linter.unusedVariables false
open Lib
/-- Is a row of digests one, and not too long? -/
def rowK (s : List UInt8) : Bool := decide (s.length % 32 = 0) && decide (s.length / 32 ≤ 1000)
def rowN (s : List UInt8) : List (List UInt8) := if rowK s = true then namesB s else []
theorem rowN_ok {s : List UInt8} (h : rowK s = true) : rowN s = namesB s := by unfold rowN; rw [if_pos h]
theorem rowN_no {s : List UInt8} (h : rowK s = false) : rowN s = [] := by unfold rowN; rw [if_neg (by rw [h]; simp)]
def intsQ (l : List (List UInt8)) : Bool := (((true && (intQ (l.getD 2 [])).isSome) && (intQ (l.getD 3 [])).isSome) && (intQ (l.getD 5 [])).isSome) && (intQ (l.getD 6 [])).isSome
/-- Are the numbers numbers, and the first k rows rows? -/
def allQ (l : List (List UInt8)) : Nat → Bool
  | 0 => intsQ l
  | k + 1 => allQ l k && rowK (l.getD (7 + k) [])
theorem mchk_long {s : Snap} (h : 1000 < s.c0.length + s.c1.length + s.c2.length) : mchk s ≠ 0 := by
  intro h0
  have := (chkOk_of h0).l
  omega
theorem okL_all {l : List (List UInt8)} (hf : formL l = true) (h0 : l.getD 0 [] = hibm) : okL l = (allQ l 3 && decide (mchk (snapOf l) = 0)) := by
  have l0 : (snapOf l).c0.length = (l.getD 7 []).length / 32 := namesB_len _
  have l1 : (snapOf l).c1.length = (l.getD 8 []).length / 32 := namesB_len _
  have l2 : (snapOf l).c2.length = (l.getD 9 []).length / 32 := namesB_len _
  have hlong := mchk_long (s := snapOf l)
  rw [l0, l1, l2] at hlong
  rw [Bool.eq_iff_iff]
  unfold okL
  rw [hf, Bool.true_and, Bool.and_eq_true, Bool.and_eq_true]
  unfold partsL
  simp only [allQ, intsQ, rowK, Bool.true_and, Bool.and_eq_true, decide_eq_true_eq, Nat.add_zero, Nat.reduceAdd]
  constructor
  · rintro ⟨⟨-, i2, i3, i5, i6, r7, r8, r9⟩, hc⟩
    have hn : ¬ 1000 < (l.getD 7 []).length / 32 + (l.getD 8 []).length / 32 + (l.getD 9 []).length / 32 := fun h => hlong h hc
    exact ⟨⟨⟨⟨⟨⟨⟨i2, i3⟩, i5⟩, i6⟩, r7, by omega⟩, r8, by omega⟩, r9, by omega⟩, hc⟩
  · rintro ⟨⟨⟨⟨⟨⟨⟨i2, i3⟩, i5⟩, i6⟩, r7, -⟩, r8, -⟩, r9, -⟩, hc⟩
    exact ⟨⟨h0, i2, i3, i5, i6, r7, r8, r9⟩, hc⟩
theorem okL_noForm {l : List (List UInt8)} (hf : formL l = false) : okL l = false := by unfold okL; rw [hf]; rfl
theorem okL_noHead {l : List (List UInt8)} (h0 : l.getD 0 [] ≠ hibm) : okL l = false := by
  unfold okL partsL
  rw [decide_eq_false h0]; simp
/-- What stands in memory when k rows are laid. -/
def partL (l : List (List UInt8)) (k : Nat) : Snap := ⟨l.getD 1 [], num0 (l.getD 2 []), num0 (l.getD 3 []), (getN (l.getD 4 []) : Int), num0 (l.getD 5 []), num0 (l.getD 6 []), if 0 < k then rowN (l.getD 7 []) else [], if 1 < k then rowN (l.getD 8 []) else [], if 2 < k then rowN (l.getD 9 []) else [], List.replicate 32 0⟩
theorem allQ_le {l : List (List UInt8)} : ∀ {k : Nat}, allQ l (k + 1) = true → allQ l k = true := fun h => by
  unfold allQ at h
  simp only [Bool.and_eq_true] at h
  exact h.1
theorem part_snap {l : List (List UInt8)} (h : allQ l 3 = true) : { partL l 3 with sum := l.getD 10 [] } = snapOf l := by
  have h7 : rowK (l.getD 7 []) = true := by simp only [allQ, Bool.and_eq_true] at h; exact h.1.1.2
  have h8 : rowK (l.getD 8 []) = true := by simp only [allQ, Bool.and_eq_true] at h; exact h.1.2
  have h9 : rowK (l.getD 9 []) = true := by simp only [allQ, Bool.and_eq_true] at h; exact h.2
  unfold partL snapOf
  rw [rowN_ok h7, rowN_ok h8, rowN_ok h9]
  rfl
end Go.Proofs.YtadoplgmeoghmaaDoor.Pl
namespace Go.Proofs.YtadoplgmeoghmaaDoor.Pl
set_option linter.unusedVariables false
open Lib
structure Msg where
  k : Int
  data : List UInt8
  snap : Snap
  n : Int
  why : Int
def plainS (s : Snap) : Bool := eqS s zeroS
theorem plainS_iff (s : Snap) : plainS s = true ↔ s = zeroS := eqS_iff s zeroS
/-- Are all fields zero, but the kind? -/
def emptyM (m : Msg) : Bool := decide (m.data = []) && (plainS m.snap && (decide (m.n = 0) && decide (m.why = 0)))
/-- The message without what its kind has. -/
def bareM (m : Msg) : Msg := if m.k = 1 ∨ m.k = 2 then { m with data := [] } else if m.k = 3 then { m with snap := zeroS } else if m.k = 4 then { m with n := 0 } else if m.k = 5 then { m with why := 0 } else m
def knownM (m : Msg) : Bool := decide (1 ≤ m.k ∧ m.k ≤ 6)
def aloneM (m : Msg) : Bool := emptyM (bareM m)
def kindE (m : Msg) : Nat :=
  if m.k = 1 then (if 65536 < m.data.length then 6 else 0)
  else if m.k = 2 then (if m.data.length < 1 ∨ 100 < m.data.length then 1 else 0)
  else if m.k = 3 then mchk m.snap
  else if m.k = 4 then (if m.n < 0 then 1 else 0)
  else if m.k = 5 then (if m.why < 1 ∨ 23 < m.why then 1 else 0) else 0
def wchk (m : Msg) : Nat := if knownM m = false then 11 else if aloneM m = false then 1 else kindE m
def bodyM (m : Msg) : List UInt8 := if m.k = 1 ∨ m.k = 2 then m.data else if m.k = 3 then (mbytes m.snap).1 else if m.k = 4 then itoa m.n else if m.k = 5 then itoa m.why else []
def wput (m : Msg) : List UInt8 × Nat := if wchk m = 0 then (rowB [itoa m.k, bodyM m], 0) else ([], wchk m)
theorem wput_ok {m : Msg} (h : wchk m = 0) : wput m = (rowB [itoa m.k, bodyM m], 0) := by unfold wput; rw [if_pos h]
theorem wput_no {m : Msg} (h : wchk m ≠ 0) : wput m = ([], wchk m) := by unfold wput; rw [if_neg h]
structure WOk (m : Msg) : Prop where
  k : 1 ≤ m.k ∧ m.k ≤ 6
  a : aloneM m = true
  e : kindE m = 0
theorem wOk_of {m : Msg} (h : wchk m = 0) : WOk m := by
  unfold wchk at h
  split at h
  · cases h
  next h0 =>
  split at h
  · cases h
  next h1 =>
  have h0' : knownM m = true := by simpa using h0
  exact ⟨of_decide_eq_true h0', by simpa using h1, h⟩
def eqM (a b : Msg) : Bool := decide (a.k = b.k) && (decide (a.data = b.data) && (decide (a.n = b.n) && (decide (a.why = b.why) && eqS a.snap b.snap)))
theorem eqM_iff (a b : Msg) : eqM a b = true ↔ a = b := by
  unfold eqM
  simp only [Bool.and_eq_true, decide_eq_true_eq, eqS_iff]
  constructor
  · rintro ⟨h1, h2, h3, h4, h5⟩
    cases a; cases b; simp_all
  · rintro rfl; simp
/-- What stands in a message that may be. -/
structure MOk (m : Msg) : Prop where
  sum : m.snap.sum.length = 32
  clk : 0 ≤ m.snap.clock ∧ m.snap.clock < 18446744073709551616
  k : I64 m.k
  n : I64 m.n
  why : I64 m.why
theorem alone_12 {m : Msg} (h : m.k = 1 ∨ m.k = 2) (ha : aloneM m = true) : m.snap = zeroS ∧ m.n = 0 ∧ m.why = 0 := by
  unfold aloneM bareM emptyM at ha
  rw [if_pos h] at ha
  simp only [Bool.and_eq_true, decide_eq_true_eq, plainS_iff] at ha
  exact ⟨ha.2.1, ha.2.2.1, ha.2.2.2⟩
theorem alone_3 {m : Msg} (h : m.k = 3) (ha : aloneM m = true) : m.data = [] ∧ m.n = 0 ∧ m.why = 0 := by
  unfold aloneM bareM emptyM at ha
  rw [if_neg (by omega), if_pos h] at ha
  simp only [Bool.and_eq_true, decide_eq_true_eq, plainS_iff] at ha
  exact ⟨ha.1, ha.2.2.1, ha.2.2.2⟩
theorem alone_4 {m : Msg} (h : m.k = 4) (ha : aloneM m = true) : m.data = [] ∧ m.snap = zeroS ∧ m.why = 0 := by
  unfold aloneM bareM emptyM at ha
  rw [if_neg (by omega), if_neg (by omega), if_pos h] at ha
  simp only [Bool.and_eq_true, decide_eq_true_eq, plainS_iff] at ha
  exact ⟨ha.1, ha.2.1, ha.2.2.2⟩
theorem alone_5 {m : Msg} (h : m.k = 5) (ha : aloneM m = true) : m.data = [] ∧ m.snap = zeroS ∧ m.n = 0 := by
  unfold aloneM bareM emptyM at ha
  rw [if_neg (by omega), if_neg (by omega), if_neg (by omega), if_pos h] at ha
  simp only [Bool.and_eq_true, decide_eq_true_eq, plainS_iff] at ha
  exact ⟨ha.1, ha.2.1, ha.2.2.1⟩
theorem alone_6 {m : Msg} (h : m.k = 6) (ha : aloneM m = true) : m.data = [] ∧ m.snap = zeroS ∧ m.n = 0 ∧ m.why = 0 := by
  unfold aloneM bareM emptyM at ha
  rw [if_neg (by omega), if_neg (by omega), if_neg (by omega), if_neg (by omega)] at ha
  simp only [Bool.and_eq_true, decide_eq_true_eq, plainS_iff] at ha
  exact ⟨ha.1, ha.2.1, ha.2.2.1, ha.2.2.2⟩
theorem rowB_len_le (l : List (List UInt8)) (b : Nat) (h : ∀ t ∈ l, t.length ≤ b) : (rowB l).length ≤ l.length * (2 * b + 1) := by
  induction l with
  | nil => simp [rowB]
  | cons x l ih =>
    have h1 := h x (by simp)
    have h2 := ih fun t ht => h t (by simp [ht])
    have h3 := lenB_len x.length
    simp only [rowB, List.length_append, List.length_cons, Nat.add_mul]
    omega
theorem mbytes_short {s : Snap} (h : mchk s = 0) (hs : s.sum.length = 32) : (mbytes s).1.length ≤ 704011 := by
  rw [mbytes_ok h]
  have := rowB_len_le (sheet s) 32000 (sheet_short (chkOk_of h) hs)
  simp only [show (sheet s).length = 11 from rfl] at this
  exact this
theorem body_short {m : Msg} (h : WOk m) (hm : MOk m) : (bodyM m).length ≤ 704011 := by
  have he := h.e
  have hk := h.k
  unfold kindE at he
  unfold bodyM
  by_cases h1 : m.k = 1
  · rw [if_pos h1] at he
    rw [if_pos (.inl h1)]
    split at he
    · cases he
    · omega
  by_cases h2 : m.k = 2
  · rw [if_neg h1, if_pos h2] at he
    rw [if_pos (.inr h2)]
    split at he
    · cases he
    · omega
  rw [if_neg (by omega)]
  by_cases h3 : m.k = 3
  · rw [if_neg h1, if_neg h2, if_pos h3] at he
    rw [if_pos h3]
    exact mbytes_short he hm.sum
  rw [if_neg h3]
  by_cases h4 : m.k = 4
  · rw [if_pos h4]
    have := (itoa_len hm.n).2; omega
  rw [if_neg h4]
  by_cases h5 : m.k = 5
  · rw [if_pos h5]
    have := (itoa_len hm.why).2; omega
  rw [if_neg h5]; simp
theorem row_short {m : Msg} (h : WOk m) (hm : MOk m) : ∀ t ∈ [itoa m.k, bodyM m], t.length ≤ 704011 := by
  intro t ht
  simp only [List.mem_cons, List.not_mem_nil, or_false] at ht
  rcases ht with rfl | rfl
  · have := (itoa_len hm.k).2; omega
  · exact body_short h hm
/-- Two messages that may be have the same bytes just if they are one. -/
theorem wput_inj {a b : Msg} (ha : wchk a = 0) (hb : wchk b = 0) (ma : MOk a) (mb : MOk b) : decide ((wput a).1 = (wput b).1) = eqM a b := by
  rw [Bool.eq_iff_iff, decide_eq_true_eq, eqM_iff, wput_ok ha, wput_ok hb]
  have oa := wOk_of ha
  have ob := wOk_of hb
  constructor
  · intro h
    have hl := rowB_inj _ _ (fun s hs => by have := row_short oa ma s hs; omega) (fun s hs => by have := row_short ob mb s hs; omega) h
    simp only [List.cons.injEq, and_true] at hl
    obtain ⟨e1, e2⟩ := hl
    have hk := itoa_inj ma.k mb.k e1
    obtain ⟨ak, ad, as_, an, aw⟩ := a
    obtain ⟨bk, bd, bs, bn, bw⟩ := b
    simp only at hk
    subst hk
    have hk1 := oa.k
    have ea := oa.e
    have eb := ob.e
    unfold bodyM at e2
    unfold kindE at ea eb
    simp only at hk1 e2 ea eb
    by_cases h12 : ak = 1 ∨ ak = 2
    · obtain ⟨x1, x2, x3⟩ := alone_12 (m := ⟨ak, ad, as_, an, aw⟩) h12 oa.a
      obtain ⟨y1, y2, y3⟩ := alone_12 (m := ⟨ak, bd, bs, bn, bw⟩) h12 ob.a
      rw [if_pos h12, if_pos h12] at e2
      simp only at x1 x2 x3 y1 y2 y3
      subst x1 x2 x3 y1 y2 y3 e2
      rfl
    rw [if_neg h12, if_neg h12] at e2
    rw [if_neg (by omega), if_neg (by omega)] at ea eb
    by_cases h3 : ak = 3
    · obtain ⟨x1, x2, x3⟩ := alone_3 (m := ⟨ak, ad, as_, an, aw⟩) h3 oa.a
      obtain ⟨y1, y2, y3⟩ := alone_3 (m := ⟨ak, bd, bs, bn, bw⟩) h3 ob.a
      rw [if_pos h3, if_pos h3] at e2
      rw [if_pos h3] at ea eb
      have := mbytes_inj ea eb ma.sum mb.sum ma.clk mb.clk
      rw [decide_eq_true e2] at this
      have hs := (eqS_iff _ _).1 this.symm
      simp only at x1 x2 x3 y1 y2 y3 hs
      subst x1 x2 x3 y1 y2 y3 hs
      rfl
    rw [if_neg h3, if_neg h3] at e2
    by_cases h4 : ak = 4
    · obtain ⟨x1, x2, x3⟩ := alone_4 (m := ⟨ak, ad, as_, an, aw⟩) h4 oa.a
      obtain ⟨y1, y2, y3⟩ := alone_4 (m := ⟨ak, bd, bs, bn, bw⟩) h4 ob.a
      rw [if_pos h4, if_pos h4] at e2
      have hn := itoa_inj ma.n mb.n e2
      simp only at x1 x2 x3 y1 y2 y3 hn
      subst x1 x2 x3 y1 y2 y3 hn
      rfl
    rw [if_neg h4, if_neg h4] at e2
    by_cases h5 : ak = 5
    · obtain ⟨x1, x2, x3⟩ := alone_5 (m := ⟨ak, ad, as_, an, aw⟩) h5 oa.a
      obtain ⟨y1, y2, y3⟩ := alone_5 (m := ⟨ak, bd, bs, bn, bw⟩) h5 ob.a
      rw [if_pos h5, if_pos h5] at e2
      have hn := itoa_inj ma.why mb.why e2
      simp only at x1 x2 x3 y1 y2 y3 hn
      subst x1 x2 x3 y1 y2 y3 hn
      rfl
    obtain ⟨x1, x2, x3, x4⟩ := alone_6 (m := ⟨ak, ad, as_, an, aw⟩) (by show ak = 6; omega) oa.a
    obtain ⟨y1, y2, y3, y4⟩ := alone_6 (m := ⟨ak, bd, bs, bn, bw⟩) (by show ak = 6; omega) ob.a
    simp only at x1 x2 x3 x4 y1 y2 y3 y4
    subst x1 x2 x3 x4 y1 y2 y3 y4
    rfl
  · rintro rfl; rfl
end Go.Proofs.YtadoplgmeoghmaaDoor.Pl
namespace Go.Proofs.YtadoplgmeoghmaaDoor.Pl
set_option linter.unusedVariables false
open Lib
def zeroM : Msg := ⟨0, [], zeroS, 0, 0⟩
def readI (k : Int) (f : Int → Msg) : Option Int → Option Msg
  | some n => some (f n)
  | none => none
/-- The message of a kind and of what stands behind it. -/
def readM (k : Int) (y : List UInt8) : Option Msg :=
  if k = 1 ∨ k = 2 then some ⟨k, y, zeroS, 0, 0⟩
  else if k = 3 then (if (mof y).2 = 0 then some ⟨k, [], (mof y).1, 0, 0⟩ else none)
  else if k = 4 then readI k (fun n => ⟨k, [], zeroS, n, 0⟩) (intQ y)
  else if k = 5 then readI k (fun n => ⟨k, [], zeroS, 0, n⟩) (intQ y)
  else some ⟨k, [], zeroS, 0, 0⟩
def endM (b : List UInt8) : Option Msg → Msg × Nat
  | some m => if wput m = (b, 0) then (m, 0) else (zeroM, 3)
  | none => (zeroM, 3)
def wgetQ (b y : List UInt8) : Option Int → Msg × Nat
  | some k => if 1 ≤ k ∧ k ≤ 6 then endM b (readM k y) else (zeroM, 3)
  | none => (zeroM, 3)
def wgetL (b : List UInt8) (l : List (List UInt8)) : Msg × Nat := if l.length = 2 then wgetQ b (l.getD 1 []) (intQ (l.getD 0 [])) else (zeroM, 3)
def wgetE (b : List UInt8) : List (List UInt8) × Nat → Msg × Nat
  | (l, 0) => wgetL b l
  | (_, _ + 1) => (zeroM, 3)
def wget (b : List UInt8) : Msg × Nat := wgetE b (texts b)
theorem wget_ok {b : List UInt8} {l : List (List UInt8)} (h : texts b = (l, 0)) : wget b = wgetL b l := by unfold wget; rw [h]; rfl
theorem wget_no {b : List UInt8} {l : List (List UInt8)} {e : Nat} (h : texts b = (l, e)) (he : e ≠ 0) : wget b = (zeroM, 3) := by
  unfold wget; rw [h]
  cases e with
  | zero => exact absurd rfl he
  | succ e => rfl
theorem wgetL_len {b : List UInt8} {l : List (List UInt8)} (h : l.length ≠ 2) : wgetL b l = (zeroM, 3) := by unfold wgetL; rw [if_neg h]
theorem endM_or (b : List UInt8) (o : Option Msg) : (∃ m, o = some m ∧ endM b o = (m, 0) ∧ wput m = (b, 0)) ∨ endM b o = (zeroM, 3) := by
  cases o with
  | none => exact .inr rfl
  | some m =>
    by_cases h : wput m = (b, 0)
    · exact .inl ⟨m, rfl, by show (if wput m = (b, 0) then (m, 0) else (zeroM, 3)) = (m, 0); rw [if_pos h], h⟩
    · exact .inr (by show (if wput m = (b, 0) then (m, 0) else (zeroM, 3)) = (zeroM, 3); rw [if_neg h])
/-- A message of bytes has just these bytes; what is none's is the zero one. -/
theorem wget_or (b : List UInt8) : (∃ m, wget b = (m, 0) ∧ wput m = (b, 0)) ∨ wget b = (zeroM, 3) := by
  obtain ⟨⟨l, e⟩, ht⟩ : ∃ x, texts b = x := ⟨_, rfl⟩
  by_cases he : e = 0
  · subst he
    rw [wget_ok ht]
    unfold wgetL
    split
    · cases hq : intQ (l.getD 0 []) with
      | none => exact .inr rfl
      | some k =>
        unfold wgetQ
        simp only
        split
        · rcases endM_or b (readM k (l.getD 1 [])) with ⟨m, -, h1, h2⟩ | h
          · exact .inl ⟨m, h1, h2⟩
          · exact .inr h
        · exact .inr rfl
    · exact .inr rfl
  · exact .inr (wget_no ht he)
/-- What the snapshot of bytes is. -/
theorem mof_case (b : List UInt8) : (∃ s, mof b = (s, 0) ∧ mchk s = 0 ∧ s.sum.length = 32 ∧ 0 ≤ s.clock ∧ s.clock < 18446744073709551616) ∨ ∃ e, mof b = (zeroS, e) ∧ e ≠ 0 := by
  obtain ⟨⟨l, e⟩, ht⟩ : ∃ x, texts b = x := ⟨_, rfl⟩
  by_cases he : e = 0
  · subst he
    rw [mof_ok ht]
    unfold mofL
    by_cases hk : okL l = true
    · rw [if_pos hk]
      obtain ⟨hf, -, hm⟩ := okL_form hk
      have h4 : (l.getD 4 []).length = 8 := by
        unfold formL at hf
        rw [Bool.and_eq_true, Bool.and_eq_true] at hf
        exact of_decide_eq_true hf.2.1
      have hc := getN_lt8 (l.getD 4 []) (by omega)
      refine .inl ⟨_, rfl, hm, snapOf_sum hf, ?_, ?_⟩
      · show (0 : Int) ≤ ((getN (l.getD 4 []) : Nat) : Int); omega
      · show ((getN (l.getD 4 []) : Nat) : Int) < 18446744073709551616; omega
    · rw [if_neg hk]; exact .inr ⟨3, rfl, by omega⟩
  · exact .inr ⟨e, mof_err ht he, he⟩
theorem zeroM_ok : MOk zeroM := ⟨rfl, by decide, by constructor <;> decide, by constructor <;> decide, by constructor <;> decide⟩
theorem i64_small {k : Int} (h : 1 ≤ k ∧ k ≤ 6) : I64 k := ⟨by omega, by omega⟩
theorem readM_ok {k : Int} {y : List UInt8} {m : Msg} (hk : 1 ≤ k ∧ k ≤ 6) (h : readM k y = some m) : MOk m ∧ m.k = k := by
  have z1 : I64 0 := by constructor <;> decide
  have zs : zeroS.sum.length = 32 := rfl
  have zc : 0 ≤ zeroS.clock ∧ zeroS.clock < 18446744073709551616 := by decide
  have kk := i64_small hk
  unfold readM at h
  split at h
  · injection h with h; subst h; exact ⟨⟨zs, zc, kk, z1, z1⟩, rfl⟩
  split at h
  · split at h
    · next h0 =>
      injection h with h; subst h
      rcases mof_case y with ⟨s, e, h1, h2, h3⟩ | ⟨e, h1, h2⟩
      · rw [e]; exact ⟨⟨h2, h3, kk, z1, z1⟩, rfl⟩
      · rw [h1] at h0; exact absurd h0 h2
    · cases h
  split at h
  · cases hq : intQ y with
    | none => rw [hq] at h; cases h
    | some n => rw [hq] at h; injection h with h; subst h; exact ⟨⟨zs, zc, kk, (intQ_some hq).2, z1⟩, rfl⟩
  split at h
  · cases hq : intQ y with
    | none => rw [hq] at h; cases h
    | some n => rw [hq] at h; injection h with h; subst h; exact ⟨⟨zs, zc, kk, z1, (intQ_some hq).2⟩, rfl⟩
  · injection h with h; subst h; exact ⟨⟨zs, zc, kk, z1, z1⟩, rfl⟩
theorem mbytes_of {s : Snap} (h : mchk s = 0) (hs : s.sum.length = 32) (hc : 0 ≤ s.clock ∧ s.clock < 18446744073709551616) : mof (mbytes s).1 = (s, 0) := mof_sheet h hs hc
theorem readM_body {m : Msg} (h : WOk m) (hm : MOk m) : readM m.k (bodyM m) = some m := by
  have hk := h.k
  have he := h.e
  obtain ⟨k, d, s, n, y⟩ := m
  unfold kindE at he
  unfold readM bodyM
  simp only at hk he ⊢
  by_cases h12 : k = 1 ∨ k = 2
  · obtain ⟨x1, x2, x3⟩ := alone_12 (m := ⟨k, d, s, n, y⟩) h12 h.a
    simp only at x1 x2 x3
    subst x1 x2 x3
    rw [if_pos h12, if_pos h12]
  rw [if_neg h12, if_neg h12]
  rw [if_neg (by omega), if_neg (by omega)] at he
  by_cases h3 : k = 3
  · obtain ⟨x1, x2, x3⟩ := alone_3 (m := ⟨k, d, s, n, y⟩) h3 h.a
    simp only at x1 x2 x3
    subst x1 x2 x3
    rw [if_pos h3] at he
    have := mbytes_of he hm.sum hm.clk
    rw [if_pos h3, if_pos h3, if_pos (by rw [this]), this]
  rw [if_neg h3, if_neg h3]
  by_cases h4 : k = 4
  · obtain ⟨x1, x2, x3⟩ := alone_4 (m := ⟨k, d, s, n, y⟩) h4 h.a
    simp only at x1 x2 x3
    subst x1 x2 x3
    rw [if_pos h4, if_pos h4, intQ_itoa hm.n]; rfl
  rw [if_neg h4, if_neg h4]
  by_cases h5 : k = 5
  · obtain ⟨x1, x2, x3⟩ := alone_5 (m := ⟨k, d, s, n, y⟩) h5 h.a
    simp only at x1 x2 x3
    subst x1 x2 x3
    rw [if_pos h5, if_pos h5, intQ_itoa hm.why]; rfl
  rw [if_neg h5]
  obtain ⟨x1, x2, x3, x4⟩ := alone_6 (m := ⟨k, d, s, n, y⟩) (by show k = 6; omega) h.a
  simp only at x1 x2 x3 x4
  subst x1 x2 x3 x4
  rfl
/-- There and back. -/
theorem wget_put {m : Msg} (h : wchk m = 0) (hm : MOk m) : wget (wput m).1 = (m, 0) := by
  have ho := wOk_of h
  have hp := wput_ok h
  have ht : texts (rowB [itoa m.k, bodyM m]) = ([itoa m.k, bodyM m], 0) := texts_rowB _ fun t ht => by have := row_short ho hm t ht; omega
  rw [hp]
  show wget (rowB [itoa m.k, bodyM m]) = (m, 0)
  rw [wget_ok ht]
  unfold wgetL
  rw [if_pos (show ([itoa m.k, bodyM m] : List (List UInt8)).length = 2 from rfl)]
  show wgetQ _ (bodyM m) (intQ (itoa m.k)) = _
  rw [intQ_itoa hm.k]
  unfold wgetQ
  simp only
  rw [if_pos ho.k, readM_body ho hm]
  show (if wput m = _ then (m, 0) else (zeroM, 3)) = (m, 0)
  rw [if_pos hp]
/-- Behind a row the texts go on. -/
theorem textsA_more_row (r : List UInt8) : ∀ (l : List (List UInt8)) (k : Nat) (acc : List (List UInt8)), (∀ s ∈ l, s.length < 268435456) → (rowB l ++ r).length ≤ k → ∃ k', r.length ≤ k' ∧ textsA k (rowB l ++ r) acc = textsA k' r (acc ++ l)
  | [], k, acc, _, hk => ⟨k, by simpa [rowB] using hk, by simp [rowB]⟩
  | s :: l, k, acc, hs, hk => by
    have h1 := lenOf_lenB s.length 0 0 (s ++ rowB l ++ r) (by omega) (by have := hs s (by simp); omega) (by omega)
    simp only [Nat.zero_add, Nat.pow_zero, Nat.mul_one] at h1
    have he : rowB (s :: l) ++ r = lenB s.length ++ (s ++ rowB l ++ r) := by simp [rowB]
    have hd : (rowB (s :: l) ++ r).drop (lenB s.length).length = s ++ (rowB l ++ r) := by rw [he]; simp
    have hne : rowB (s :: l) ++ r ≠ [] := by
      rw [he]; intro h; exact lenB_ne _ (List.append_eq_nil_iff.1 h).1
    have hl := List.length_pos_iff.2 (lenB_ne s.length)
    rw [textsA_more k (rowB (s :: l) ++ r) acc s.length (lenB s.length).length hne hk (by rw [he]; exact h1) (by rw [hd]; simp), hd, List.drop_left, List.take_left]
    obtain ⟨k', h2, h3⟩ := textsA_more_row r l (k - 1) (acc ++ [s]) (fun x hx => hs x (by simp [hx])) (by
      have := hk; rw [he] at this; simp at this ⊢; omega)
    exact ⟨k', h2, by rw [h3]; simp⟩
theorem wget_cut {m : Msg} (h : wchk m = 0) (hm : MOk m) {j : Nat} (hj : j < (wput m).1.length) : wget ((wput m).1.take j) = (zeroM, 3) := by
  have ho := wOk_of h
  rw [wput_ok h] at hj ⊢
  simp only at hj ⊢
  have hs : ∀ t ∈ [itoa m.k, bodyM m], t.length < 268435456 := fun t ht => by have := row_short ho hm t ht; omega
  have hc := texts_cut [itoa m.k, bodyM m] j ((rowB [itoa m.k, bodyM m]).take j).length [] hs hj (by rw [List.length_take]; omega)
  rcases hc with hc | ⟨l', hc, hl⟩
  · exact wget_no (l := []) (e := 4) hc (by omega)
  · rw [wget_ok (l := l') (by rw [texts, hc]; simp)]
    exact wgetL_len (by simp at hl; omega)
theorem wget_more {m : Msg} (h : wchk m = 0) (hm : MOk m) {r : List UInt8} (hr : r ≠ []) : wget ((wput m).1 ++ r) = (zeroM, 3) := by
  have ho := wOk_of h
  rw [wput_ok h]
  simp only
  have hs : ∀ t ∈ [itoa m.k, bodyM m], t.length < 268435456 := fun t ht => by have := row_short ho hm t ht; omega
  obtain ⟨k', h1, h2⟩ := textsA_more_row r [itoa m.k, bodyM m] (rowB [itoa m.k, bodyM m] ++ r).length [] hs (Nat.le_refl _)
  obtain ⟨⟨l, e⟩, hx⟩ : ∃ x, textsA k' r ([] ++ [itoa m.k, bodyM m]) = x := ⟨_, rfl⟩
  have ht : texts (rowB [itoa m.k, bodyM m] ++ r) = (l, e) := by rw [texts, h2, hx]
  by_cases he : e = 0
  · subst he
    obtain ⟨l', h3, -, h5⟩ := rowB_textsA k' r _ l h1 hx
    rw [wget_ok ht]
    have := List.length_pos_iff.2 (h5 hr)
    exact wgetL_len (by have hl := congrArg List.length h3; simp at hl; omega)
  · exact wget_no ht he
end Go.Proofs.YtadoplgmeoghmaaDoor.Pl
