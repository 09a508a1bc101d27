/- Plain Lean: a snapshot's bytes, and the snapshot of bytes, there and back. No program in sight. -/
import Derived.Test.YtommlolhpaeioaaDoorMfPlain
import Derived.Test.YtommlolhpaeioaaDoorNumLaw
import Derived.Test.YtommlolhpaeioaaDoorPutPlain
set_option linter.unusedVariables false
namespace Go.Proofs.YtommlolhpaeioaaDoor.Pl
open Lib
/-- The sign of a number below sixteen. -/
def sgn (n : Nat) : UInt8 := if n < 10 then UInt8.ofNat (48 + n) else UInt8.ofNat (87 + n)
def hexB : List UInt8 → List UInt8
  | [] => []
  | c :: l => sgn (c.toNat / 16) :: sgn (c.toNat % 16) :: hexB l
theorem hexB_append (l k : List UInt8) : hexB (l ++ k) = hexB l ++ hexB k := by
  induction l with
  | nil => rfl
  | cons c l ih => simp [hexB, ih]
theorem hexB_len (l : List UInt8) : (hexB l).length = 2 * l.length := by
  induction l with
  | nil => rfl
  | cons c l ih => simp [hexB, ih]; omega
theorem half_sgn : ∀ x : Fin 16, halfN (sgn x.val) = some x.val := by decide +kernel
theorem half_sgn' {x : Nat} (h : x < 16) : halfN (sgn x) = some x := half_sgn ⟨x, h⟩
theorem sgn_half {c : UInt8} {x : Nat} (h : halfN c = some x) : sgn x = c := by
  have hc := c.toNat_lt
  unfold halfN at h
  split at h
  · injection h with h
    subst h
    unfold sgn
    rw [if_pos (by omega)]
    apply UInt8.toNat_inj.1
    simp [UInt8.toNat_ofNat']; omega
  · split at h
    · injection h with h
      subst h
      unfold sgn
      rw [if_neg (by omega)]
      apply UInt8.toNat_inj.1
      simp [UInt8.toNat_ofNat']; omega
    · cases h
theorem hexB_even (l : List UInt8) : ∀ i, (h : i < l.length) → (hexB l).getD (2 * i) 0 = sgn (l[i].toNat / 16) ∧ (hexB l).getD (2 * i + 1) 0 = sgn (l[i].toNat % 16) := by
  induction l with
  | nil => intro i h; simp at h
  | cons c l ih =>
    intro i h
    cases i with
    | zero => simp [hexB]
    | succ i =>
      have h' : i < l.length := by simpa using h
      have := ih i h'
      simpa [hexB, Nat.mul_succ] using this
theorem pair_hex (l : List UInt8) (i : Nat) (h : i < l.length) : pairN (hexB l) i = some l[i] := by
  have hc := l[i].toNat_lt
  obtain ⟨h1, h2⟩ := hexB_even l i h
  unfold pairN
  rw [h1, h2, half_sgn' (by omega), half_sgn' (by omega)]
  show some (UInt8.ofNat (16 * (l[i].toNat / 16) + l[i].toNat % 16)) = some l[i]
  congr 1
  apply UInt8.toNat_inj.1
  simp [UInt8.toNat_ofNat']; omega
theorem first_hex (l : List UInt8) : ∀ k, k ≤ l.length → firstK (hexB l) k = some (l.take k)
  | 0, _ => by simp [firstK]
  | k + 1, h => by
    rw [firstK_step (first_hex l k (by omega)) (pair_hex l k (by omega)), List.take_succ_eq_append_getElem (by omega)]
theorem hashOf_hex {d : List UInt8} (h : d.length = 32) : hashOf (hexB d) = some d := by
  unfold hashOf
  rw [if_pos (by rw [hexB_len]; omega), first_hex d 32 (by omega), List.take_of_length_le (by omega)]
theorem take2 (s : List UInt8) (k : Nat) (h : 2 * k + 1 < s.length) : s.take (2 * (k + 1)) = s.take (2 * k) ++ [s.getD (2 * k) 0, s.getD (2 * k + 1) 0] := by
  have h0 : 2 * k < s.length := by omega
  have e1 : s.getD (2 * k) 0 = s[2 * k] := by simp [List.getD_eq_getElem?_getD, List.getElem?_eq_getElem h0]
  have e2 : s.getD (2 * k + 1) 0 = s[2 * k + 1] := by simp [List.getD_eq_getElem?_getD, List.getElem?_eq_getElem h]
  have a1 : s.take (2 * k + 1 + 1) = s.take (2 * k + 1) ++ [s[2 * k + 1]] := List.take_succ_eq_append_getElem h
  have a2 : s.take (2 * k + 1) = s.take (2 * k) ++ [s[2 * k]] := List.take_succ_eq_append_getElem h0
  rw [show 2 * (k + 1) = 2 * k + 1 + 1 by omega, a1, a2, e1, e2, List.append_assoc]; rfl
theorem hex_first (s : List UInt8) : ∀ k l, 2 * k ≤ s.length → firstK s k = some l → hexB l = s.take (2 * k)
  | 0, l, _, h => by injection h with h; subst h; simp [hexB]
  | k + 1, l, hk, h => by
    unfold firstK at h
    split at h
    · next l1 b h1 h2 =>
      injection h with h
      subst h
      rw [hexB_append, hex_first s k l1 (by omega) h1, take2 s k (by omega)]
      congr 1
      unfold pairN at h2
      rcases hx : halfN (s.getD (2 * k) 0) with _ | x
      · rw [hx] at h2; cases h2
      rcases hy : halfN (s.getD (2 * k + 1) 0) with _ | y
      · rw [hx, hy] at h2; cases h2
      rw [hx, hy] at h2
      injection h2 with h2
      subst h2
      have hx' := halfN_lt hx
      have hy' := halfN_lt hy
      have e : (UInt8.ofNat (16 * x + y)).toNat = 16 * x + y := by simp [UInt8.toNat_ofNat']; omega
      show [sgn ((UInt8.ofNat (16 * x + y)).toNat / 16), sgn ((UInt8.ofNat (16 * x + y)).toNat % 16)] = _
      rw [e, show (16 * x + y) / 16 = x by omega, show (16 * x + y) % 16 = y by omega, sgn_half hx, sgn_half hy]
    · cases h
theorem hex_hashOf {x d : List UInt8} (h : hashOf x = some d) : hexB d = x ∧ d.length = 32 := by
  unfold hashOf at h
  split at h
  · next h64 =>
    have := hex_first x 32 d (by omega) h
    rw [List.take_of_length_le (by omega)] at this
    exact ⟨this, firstK_len h⟩
  · cases h
/-- The bytes of a text's digest. -/
def digS (x : List UInt8) : List UInt8 := (hashOf x).getD []
def rawB : List (List UInt8) → List UInt8
  | [] => []
  | x :: l => digS x ++ rawB l
theorem rawB_append (l k : List (List UInt8)) : rawB (l ++ k) = rawB l ++ rawB k := by
  induction l with
  | nil => rfl
  | cons c l ih => simp [rawB, ih]
theorem rawB_snoc (l : List (List UInt8)) (x : List UInt8) : rawB (l ++ [x]) = rawB l ++ digS x := by simp [rawB_append, rawB]
theorem digS_len {x : List UInt8} (h : okN x = true) : (digS x).length = 32 := by
  unfold okN at h
  unfold digS
  cases hd : hashOf x with
  | none => rw [hd] at h; cases h
  | some d => exact (hex_hashOf hd).2
theorem digS_hex {x : List UInt8} (h : okN x = true) : hexB (digS x) = x := by
  unfold okN at h
  unfold digS
  cases hd : hashOf x with
  | none => rw [hd] at h; cases h
  | some d => exact (hex_hashOf hd).1
theorem digS_le (x : List UInt8) : (digS x).length ≤ 32 := by
  unfold digS
  cases hd : hashOf x with
  | none => simp
  | some d => have := (hex_hashOf hd).2; simp [this]
theorem rawB_le (l : List (List UInt8)) : (rawB l).length ≤ 32 * l.length := by
  induction l with
  | nil => simp [rawB]
  | cons c l ih => have := digS_le c; simp [rawB]; omega
theorem rawB_len {l : List (List UInt8)} (h : l.all okN = true) : (rawB l).length = 32 * l.length := by
  induction l with
  | nil => simp [rawB]
  | cons c l ih =>
    simp only [List.all_cons, Bool.and_eq_true] at h
    have := digS_len h.1
    have := ih h.2
    simp [rawB]; omega
/-- The names of digests that stand one behind the other. -/
def namesK : Nat → List UInt8 → List (List UInt8)
  | 0, _ => []
  | k + 1, b => hexB (b.take 32) :: namesK k (b.drop 32)
def namesB (b : List UInt8) : List (List UInt8) := namesK (b.length / 32) b
theorem namesK_len : ∀ k b, (namesK k b).length = k
  | 0, _ => rfl
  | k + 1, b => by simp [namesK, namesK_len k]
theorem namesB_len (b : List UInt8) : (namesB b).length = b.length / 32 := namesK_len _ _
theorem namesK_ok : ∀ k b, 32 * k ≤ b.length → (namesK k b).all okN = true
  | 0, _, _ => rfl
  | k + 1, b, h => by
    simp only [namesK, List.all_cons, Bool.and_eq_true]
    exact ⟨by unfold okN; rw [hashOf_hex (by simp; omega)]; rfl, namesK_ok k _ (by simp; omega)⟩
theorem namesB_ok (b : List UInt8) : (namesB b).all okN = true := namesK_ok _ _ (by omega)
theorem namesK_snoc : ∀ k b, namesK (k + 1) b = namesK k b ++ [hexB ((b.drop (32 * k)).take 32)]
  | 0, b => by simp [namesK]
  | k + 1, b => by
    rw [namesK, namesK_snoc k (b.drop 32)]
    simp only [namesK, List.cons_append, List.drop_drop]
    rw [show 32 + 32 * k = 32 * (k + 1) by omega]
theorem raw_namesK : ∀ k b, 32 * k ≤ b.length → rawB (namesK k b) = b.take (32 * k)
  | 0, b, _ => by simp [namesK, rawB]
  | k + 1, b, h => by
    have e : digS (hexB (b.take 32)) = b.take 32 := by unfold digS; rw [hashOf_hex (by simp; omega)]; rfl
    simp only [namesK, rawB]
    rw [e, raw_namesK k _ (by simp; omega), show 32 * (k + 1) = 32 + 32 * k by omega, List.take_add]
theorem raw_names (b : List UInt8) : rawB (namesB b) = b.take (32 * (b.length / 32)) := raw_namesK _ _ (by omega)
theorem raw_names_iff (b : List UInt8) : rawB (namesB b) = b ↔ b.length % 32 = 0 := by
  rw [raw_names]
  constructor
  · intro h
    have := congrArg List.length h
    simp at this; omega
  · intro h
    exact List.take_of_length_le (by omega)
theorem namesK_raw : ∀ l : List (List UInt8), l.all okN = true → ∀ r, namesK l.length (rawB l ++ r) = l
  | [], _, _ => rfl
  | x :: l, h, r => by
    simp only [List.all_cons, Bool.and_eq_true] at h
    have hl := digS_len h.1
    simp only [List.length_cons, namesK, rawB, List.append_assoc]
    rw [List.take_append_of_le_length (by omega), List.take_of_length_le (by omega), digS_hex h.1, List.drop_append_of_le_length (by omega), List.drop_of_length_le (by omega), List.nil_append, namesK_raw l h.2]
theorem names_raw {l : List (List UInt8)} (h : l.all okN = true) : namesB (rawB l) = l := by
  unfold namesB
  rw [rawB_len h, Nat.mul_div_cancel_left _ (by omega)]
  have := namesK_raw l h []
  rwa [List.append_nil] at this
def hibm : List UInt8 := [104, 105, 98, 109]
def sheet (s : Snap) : List (List UInt8) := [hibm, s.m, itoa s.n, itoa s.at_, putB s.clock.toNat 8, itoa s.pages, itoa s.blocks, rawB s.c0, rawB s.c1, rawB s.c2, s.sum]
def mbytes (s : Snap) : List UInt8 × Nat := if mchk s = 0 then (rowB (sheet s), 0) else ([], mchk s)
theorem mbytes_ok {s : Snap} (h : mchk s = 0) : mbytes s = (rowB (sheet s), 0) := by unfold mbytes; rw [if_pos h]
theorem mbytes_no {s : Snap} (h : mchk s ≠ 0) : mbytes s = ([], mchk s) := by unfold mbytes; rw [if_neg h]
theorem mchk_le (s : Snap) : mchk s ≤ 7 := by unfold mchk; split <;> (try split) <;> (try split) <;> (try split) <;> omega
structure ChkOk (s : Snap) : Prop where
  m : machine s.m = true
  n : 1 ≤ s.n ∧ s.n ≤ 100000000
  a : 0 ≤ s.at_ ∧ s.at_ ≤ 1000000000000
  p : 1 ≤ s.pages ∧ s.pages ≤ 64
  b : 1 ≤ s.blocks ∧ s.blocks ≤ 256
  l : s.c0.length + s.c1.length + s.c2.length ≤ 1000
  c0 : s.c0.all okN = true
  c1 : s.c1.all okN = true
  c2 : s.c2.all okN = true
theorem chkOk_of {s : Snap} (h : mchk s = 0) : ChkOk s := by
  unfold mchk at h
  split at h
  · cases h
  next h0 =>
  split at h
  · cases h
  next h1 =>
  split at h
  · cases h
  next h2 =>
  split at h
  rotate_left
  · cases h
  next h3 =>
  have h1' : inR s = true := by simpa using h1
  have hr := of_decide_eq_true h1'
  unfold all3 at h3
  rw [List.all_append, List.all_append, Bool.and_eq_true, Bool.and_eq_true] at h3
  exact ⟨by simpa using h0, hr.1, hr.2.1, hr.2.2.1, hr.2.2.2, by omega, h3.1.1, h3.1.2, h3.2⟩
theorem mchk_of {s : Snap} (h : ChkOk s) : mchk s = 0 := by
  unfold mchk
  rw [if_neg (by rw [h.m]; simp), if_neg (by rw [show inR s = true from decide_eq_true ⟨h.n, h.a, h.p, h.b⟩]; simp), if_neg (by have := h.l; omega), if_pos]
  unfold all3
  rw [List.all_append, List.all_append, h.c0, h.c1, h.c2]; rfl
theorem machine_len_le {m : List UInt8} (h : machine m = true) : m.length ≤ 24 := by
  unfold machine at h
  rw [Bool.and_eq_true] at h
  have := of_decide_eq_true h.1
  omega
/-- No text of a sheet is long. -/
theorem sheet_short {s : Snap} (h : ChkOk s) (hs : s.sum.length = 32) : ∀ t ∈ sheet s, t.length ≤ 32000 := by
  have h1 := machine_len_le h.m
  have hn := h.n; have ha := h.a; have hp := h.p; have hb := h.b; have hl := h.l
  have r0 := rawB_le s.c0; have r1 := rawB_le s.c1; have r2 := rawB_le s.c2
  have i1 := (itoa_len (v := s.n) ⟨by omega, by omega⟩).2
  have i2 := (itoa_len (v := s.at_) ⟨by omega, by omega⟩).2
  have i3 := (itoa_len (v := s.pages) ⟨by omega, by omega⟩).2
  have i4 := (itoa_len (v := s.blocks) ⟨by omega, by omega⟩).2
  intro t ht
  simp only [sheet, List.mem_cons, List.not_mem_nil, or_false] at ht
  rcases ht with rfl | rfl | rfl | rfl | rfl | rfl | rfl | rfl | rfl | rfl | rfl
  · simp [hibm]
  all_goals first
    | omega
    | (rw [putB_len]; omega)
def num0 (s : List UInt8) : Int := (intQ s).getD 0
def snapOf (l : List (List UInt8)) : Snap := ⟨l.getD 1 [], num0 (l.getD 2 []), num0 (l.getD 3 []), (getN (l.getD 4 []) : Int), num0 (l.getD 5 []), num0 (l.getD 6 []), namesB (l.getD 7 []), namesB (l.getD 8 []), namesB (l.getD 9 []), l.getD 10 []⟩
def zeroS : Snap := ⟨[], 0, 0, 0, 0, 0, [], [], [], List.replicate 32 0⟩
/-- Have the texts a sheet's form? -/
def formL (l : List (List UInt8)) : Bool := decide (l.length = 11) && (decide ((l.getD 4 []).length = 8) && decide ((l.getD 10 []).length = 32))
def partsL (l : List (List UInt8)) : Bool := decide (l.getD 0 [] = hibm) && ((intQ (l.getD 2 [])).isSome && ((intQ (l.getD 3 [])).isSome && ((intQ (l.getD 5 [])).isSome && ((intQ (l.getD 6 [])).isSome && (decide ((l.getD 7 []).length % 32 = 0) && (decide ((l.getD 8 []).length % 32 = 0) && decide ((l.getD 9 []).length % 32 = 0)))))))
def okL (l : List (List UInt8)) : Bool := formL l && (partsL l && decide (mchk (snapOf l) = 0))
def mofL (l : List (List UInt8)) : Snap × Nat := if okL l = true then (snapOf l, 0) else (zeroS, 3)
def mofE : List (List UInt8) × Nat → Snap × Nat
  | (l, 0) => mofL l
  | (_, e + 1) => (zeroS, e + 1)
def mof (b : List UInt8) : Snap × Nat := mofE (texts b)
theorem mof_ok {b : List UInt8} {l : List (List UInt8)} (h : texts b = (l, 0)) : mof b = mofL l := by unfold mof; rw [h]; rfl
theorem mof_err {b : List UInt8} {l : List (List UInt8)} {e : Nat} (h : texts b = (l, e)) (he : e ≠ 0) : mof b = (zeroS, e) := by
  unfold mof; rw [h]
  cases e with
  | zero => exact absurd rfl he
  | succ e => rfl
theorem num0_in (s : List UInt8) : I64 (num0 s) := by
  unfold num0
  cases h : intQ s with
  | none => constructor <;> simp
  | some v => exact (intQ_some h).2
theorem itoa0 : itoa 0 = [48] := by decide +kernel
theorem num0_iff (s : List UInt8) : itoa (num0 s) = s ↔ (intQ s).isSome = true := by
  constructor
  · intro h
    have := intQ_itoa (num0_in s)
    rw [h] at this
    rw [this]; rfl
  · intro h
    cases hq : intQ s with
    | none => rw [hq] at h; cases h
    | some v => unfold num0; rw [hq]; exact (intQ_some hq).1
theorem list11 {l : List (List UInt8)} (h : l.length = 11) : l = [l.getD 0 [], l.getD 1 [], l.getD 2 [], l.getD 3 [], l.getD 4 [], l.getD 5 [], l.getD 6 [], l.getD 7 [], l.getD 8 [], l.getD 9 [], l.getD 10 []] := by
  match l, h with
  | [a0, a1, a2, a3, a4, a5, a6, a7, a8, a9, a10], _ => rfl
/-- What is read of texts of a sheet's form is written as they are just if its parts are what they may be. -/
theorem sheet_snapOf {l : List (List UInt8)} (h : formL l = true) : sheet (snapOf l) = l ↔ partsL l = true := by
  unfold formL at h
  rw [Bool.and_eq_true, Bool.and_eq_true] at h
  have h11 := of_decide_eq_true h.1
  have h4 := of_decide_eq_true h.2.1
  have hp : putB (getN (l.getD 4 [])) 8 = l.getD 4 [] := by have := putB_getN (l.getD 4 []); rwa [h4] at this
  have e := list11 h11
  have hs : sheet (snapOf l) = [hibm, l.getD 1 [], itoa (num0 (l.getD 2 [])), itoa (num0 (l.getD 3 [])), putB (getN (l.getD 4 [])) 8, itoa (num0 (l.getD 5 [])), itoa (num0 (l.getD 6 [])), rawB (namesB (l.getD 7 [])), rawB (namesB (l.getD 8 [])), rawB (namesB (l.getD 9 [])), l.getD 10 []] := rfl
  rw [hs]
  constructor
  · intro he
    rw [e] at he
    simp only [List.cons.injEq, and_true] at he
    obtain ⟨e0, -, e2, e3, -, e5, e6, e7, e8, e9, -⟩ := he
    simp only [List.getD_cons_zero, List.getD_cons_succ] at e0 e2 e3 e5 e6 e7 e8 e9
    unfold partsL
    simp only [Bool.and_eq_true, decide_eq_true_eq]
    exact ⟨e0.symm, (num0_iff _).1 e2, (num0_iff _).1 e3, (num0_iff _).1 e5, (num0_iff _).1 e6, (raw_names_iff _).1 e7, (raw_names_iff _).1 e8, (raw_names_iff _).1 e9⟩
  · intro hq
    unfold partsL at hq
    simp only [Bool.and_eq_true, decide_eq_true_eq] at hq
    obtain ⟨e0, e2, e3, e5, e6, e7, e8, e9⟩ := hq
    rw [(num0_iff _).2 e2, (num0_iff _).2 e3, (num0_iff _).2 e5, (num0_iff _).2 e6, (raw_names_iff _).2 e7, (raw_names_iff _).2 e8, (raw_names_iff _).2 e9, hp, ← e0, ← e]
theorem snapOf_sum {l : List (List UInt8)} (h : formL l = true) : (snapOf l).sum.length = 32 := by
  unfold formL at h
  rw [Bool.and_eq_true, Bool.and_eq_true] at h
  exact of_decide_eq_true h.2.2
/-- The document's way: what is read, is written as the bytes were. -/
theorem okL_iff {b : List UInt8} {l : List (List UInt8)} (hb : b.length < 268435456) (ht : texts b = (l, 0)) (hf : formL l = true) : okL l = true ↔ mbytes (snapOf l) = (b, 0) := by
  have hr := rowB_texts b l ht
  have hlt : ∀ s ∈ l, s.length < 268435456 := by
    intro s hs
    have : s.length ≤ (rowB l).length := by
      clear hr ht hf hb
      induction l with
      | nil => cases hs
      | cons x l ih =>
        simp only [rowB, List.length_append]
        rcases List.mem_cons.1 hs with rfl | h
        · omega
        · have := ih h; omega
    rw [hr] at this; omega
  unfold okL
  rw [hf, Bool.true_and, Bool.and_eq_true, decide_eq_true_eq]
  constructor
  · rintro ⟨hp, hm⟩
    rw [mbytes_ok hm, (sheet_snapOf hf).2 hp, hr]
  · intro h
    by_cases hm : mchk (snapOf l) = 0
    · rw [mbytes_ok hm] at h
      injection h with h _
      rw [← hr] at h
      have hk := chkOk_of hm
      have := rowB_inj _ _ (fun s hs => by have := sheet_short hk (snapOf_sum hf) s hs; omega) hlt h
      exact ⟨(sheet_snapOf hf).1 this, hm⟩
    · rw [mbytes_no hm] at h
      injection h with _ h
      exact absurd h hm
theorem okL_form {l : List (List UInt8)} (h : okL l = true) : formL l = true ∧ partsL l = true ∧ mchk (snapOf l) = 0 := by
  unfold okL at h
  rw [Bool.and_eq_true, Bool.and_eq_true] at h
  exact ⟨h.1, h.2.1, of_decide_eq_true h.2.2⟩
/-- What is of bytes has these bytes. -/
theorem mbytes_mof {b : List UInt8} {s : Snap} (hb : b.length < 268435456) (h : mof b = (s, 0)) : mbytes s = (b, 0) := by
  obtain ⟨⟨l, e⟩, ht⟩ : ∃ x, texts b = x := ⟨_, rfl⟩
  by_cases he : e = 0
  · subst he
    rw [mof_ok ht] at h
    unfold mofL at h
    split at h
    · next hk =>
      injection h with h
      subst h
      exact (okL_iff hb ht (okL_form hk).1).1 hk
    · injection h with _ h; cases h
  · rw [mof_err ht he] at h
    injection h with _ h
    exact absurd h he
theorem snapOf_sheet {s : Snap} (h : ChkOk s) (hc : 0 ≤ s.clock ∧ s.clock < 18446744073709551616) : snapOf (sheet s) = s := by
  have hn := h.n; have ha := h.a; have hp := h.p; have hb := h.b
  have i1 : num0 (itoa s.n) = s.n := by unfold num0; rw [intQ_itoa ⟨by omega, by omega⟩]; rfl
  have i2 : num0 (itoa s.at_) = s.at_ := by unfold num0; rw [intQ_itoa ⟨by omega, by omega⟩]; rfl
  have i3 : num0 (itoa s.pages) = s.pages := by unfold num0; rw [intQ_itoa ⟨by omega, by omega⟩]; rfl
  have i4 : num0 (itoa s.blocks) = s.blocks := by unfold num0; rw [intQ_itoa ⟨by omega, by omega⟩]; rfl
  have g : ((getN (putB s.clock.toNat 8) : Nat) : Int) = s.clock := by
    rw [getN_putB, Nat.mod_eq_of_lt (by omega)]; omega
  show Snap.mk s.m (num0 (itoa s.n)) (num0 (itoa s.at_)) (getN (putB s.clock.toNat 8) : Nat) (num0 (itoa s.pages)) (num0 (itoa s.blocks)) (namesB (rawB s.c0)) (namesB (rawB s.c1)) (namesB (rawB s.c2)) s.sum = s
  rw [i1, i2, i3, i4, g, names_raw h.c0, names_raw h.c1, names_raw h.c2]
theorem mof_sheet {s : Snap} (hm : mchk s = 0) (hs : s.sum.length = 32) (hc : 0 ≤ s.clock ∧ s.clock < 18446744073709551616) : mof (mbytes s).1 = (s, 0) := by
  have h := chkOk_of hm
  have e := snapOf_sheet h hc
  have ht : texts (rowB (sheet s)) = (sheet s, 0) := texts_rowB _ fun t ht => by have := sheet_short h hs t ht; omega
  have hf : formL (sheet s) = true := by
    show (decide (11 = 11) && (decide ((putB s.clock.toNat 8).length = 8) && decide (s.sum.length = 32))) = true
    rw [putB_len, hs]; rfl
  rw [mbytes_ok hm]
  show mof (rowB (sheet s)) = (s, 0)
  rw [mof_ok ht]
  unfold mofL
  rw [if_pos, e]
  unfold okL
  rw [hf, (sheet_snapOf hf).1 (by rw [e]), e, hm]; rfl
theorem mof_err_le (b : List UInt8) : (mof b).2 ≤ 4 ∨ True := .inr trivial
/-- Are two snapshots one? -/
def eqS (a b : Snap) : Bool := decide (a.c0 = b.c0) && (decide (a.c1 = b.c1) && (decide (a.c2 = b.c2) && (decide (a.m = b.m) && (decide (a.n = b.n) && (decide (a.at_ = b.at_) && (decide (a.clock = b.clock) && (decide (a.pages = b.pages) && (decide (a.blocks = b.blocks) && decide (a.sum = b.sum)))))))))
theorem eqS_iff (a b : Snap) : eqS a b = true ↔ a = b := by
  unfold eqS
  simp only [Bool.and_eq_true, decide_eq_true_eq]
  constructor
  · rintro ⟨h1, h2, h3, h4, h5, h6, h7, h8, h9, h10⟩
    cases a; cases b
    simp_all
  · rintro rfl; simp
theorem eqS_self (a : Snap) : eqS a a = true := (eqS_iff a a).2 rfl
/-- Two that may be have the same bytes just if they are one. -/
theorem mbytes_inj {a b : Snap} (ha : mchk a = 0) (hb : mchk b = 0) (sa : a.sum.length = 32) (sb : b.sum.length = 32) (ca : 0 ≤ a.clock ∧ a.clock < 18446744073709551616) (cb : 0 ≤ b.clock ∧ b.clock < 18446744073709551616) : decide ((mbytes a).1 = (mbytes b).1) = eqS a b := by
  rw [Bool.eq_iff_iff, decide_eq_true_eq, eqS_iff]
  constructor
  · intro h
    have h1 := mof_sheet ha sa ca
    rw [h, mof_sheet hb sb cb] at h1
    injection h1 with h1
    exact h1.symm
  · rintro rfl; rfl
end Go.Proofs.YtommlolhpaeioaaDoor.Pl
