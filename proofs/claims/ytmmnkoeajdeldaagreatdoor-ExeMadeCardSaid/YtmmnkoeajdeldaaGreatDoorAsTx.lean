/- Plain Lean: the tokens of texts that are put together. No program in sight. Plain Lean: an instruction's text makes that instruction. No program in sight. Plain Lean: an instruction's tokens make that instruction. No program in sight. Plain Lean: words, one line each, make those words. No program in sight. Plain Lean: a program's list makes that program. No program in sight. -/
import Derived.Test.YtmmnkoeajdeldaaGreatDoorAsGp
import Derived.Lib.Join
import Derived.Test.YtmmnkoeajdeldaaGreatDoorAsEq2
namespace Go.Proofs.YtmmnkoeajdeldaaGreatDoor.Pl
open Go.RowKit
open Go.Lib (itoa decDigits)
set_option linter.unusedVariables false
set_option linter.unusedSimpArgs false
/-- The rest doesn't go on with a sign that is so. -/
def stops (p : UInt8 → Bool) : List UInt8 → Prop
  | [] => True
  | c :: _ => p c = false
theorem span_app (p : UInt8 → Bool) : ∀ (w r : List UInt8), (∀ c ∈ w, p c = true) → stops p r → spanN p (w ++ r) = w.length
  | [], [], _, _ => rfl
  | [], c :: r, _, h => by
    have h' : p c = false := h
    simp [spanN, h']
  | c :: w, r, hw, h => by
    have h1 := hw c (by simp)
    have ih := span_app p w r (fun d hd => hw d (List.mem_cons_of_mem _ hd)) h
    simp [spanN, h1, ih]
theorem toks_of_tok {l : List UInt8} {t : Tk} {n : Nat} (h : tokN l = some (t, n)) (hc : ∀ c r, l = c :: r → c.toNat ≠ 35 ∧ c.toNat ≠ 32 ∧ c.toNat ≠ 9) : toks l = (toks (l.drop n)).map fun y => t :: y := by
  cases l with
  | nil => cases h
  | cons c r =>
    have h3 := hc c r rfl
    rw [toks_cons, if_neg h3.1, if_neg (by omega), h]
theorem toks_word {w r : List UInt8} (hw : ∀ c ∈ w, lodB c = true) (hh : ∃ c w', w = c :: w' ∧ letB c = true) (hr : stops lodB r) : toks (w ++ r) = (toks r).map fun y => ⟨0, w, 0⟩ :: y := by
  obtain ⟨c, w', rfl, hc⟩ := hh
  have hs := span_app lodB (c :: w') r hw hr
  have hcn : 97 ≤ c.toNat ∧ c.toNat ≤ 122 ∨ 65 ≤ c.toNat ∧ c.toNat ≤ 90 ∨ c.toNat = 95 := by simpa [letB] using hc
  have hm : markN c = none := by
    unfold markN
    rw [if_neg (by omega), if_neg (by omega), if_neg (by omega), if_neg (by omega)]
  have ht : tokN (c :: w' ++ r) = some (⟨0, c :: w', 0⟩, (c :: w').length) := by
    show tokN (c :: (w' ++ r)) = _
    simp only [tokN, hm, hc, if_true]
    rw [show c :: (w' ++ r) = c :: w' ++ r from rfl, hs, List.take_left']
    rfl
  rw [toks_of_tok ht (fun d q e => by injection e with e1 e2; subst e1; omega), List.drop_left']
  rfl
theorem toks_sp (r : List UInt8) : toks (32 :: r) = toks r := by rw [toks_cons, if_neg (by decide), if_pos (by decide)]
theorem toks_mark {c : UInt8} {k : Nat} (hm : markN c = some k) (r : List UInt8) : toks (c :: r) = (toks r).map fun y => ⟨k, [], 0⟩ :: y := by
  have ht : tokN (c :: r) = some (⟨k, [], 0⟩, 1) := by simp only [tokN, hm]
  have hc : c.toNat ≠ 35 ∧ c.toNat ≠ 32 ∧ c.toNat ≠ 9 := by
    unfold markN at hm
    refine ⟨fun e => ?_, fun e => ?_, fun e => ?_⟩ <;> (rw [e] at hm; simp at hm)
  rw [toks_of_tok ht (fun d q e => by injection e with e1 e2; subst e1; exact hc)]
  rfl
theorem dec_digs (n : Nat) : ∀ c ∈ decDigits n, digB c = true := fun c hc => decide_eq_true (dd_digit n c hc)
theorem tok_num {c : UInt8} {r : List UInt8} {sg : Nat} (h : digB c = true ∧ sg = 0 ∨ c = 45 ∧ sg = 1) (hn : spanN digB ((c :: r).drop sg) ≠ 0) : tokN (c :: r) = some (⟨1, [], numT ((c :: r).take (sg + spanN digB ((c :: r).drop sg)))⟩, sg + spanN digB ((c :: r).drop sg)) := by
  have hcn : (48 ≤ c.toNat ∧ c.toNat ≤ 57 ∧ sg = 0) ∨ (c.toNat = 45 ∧ sg = 1) := by
    rcases h with ⟨h, e⟩ | ⟨rfl, e⟩
    · have : 48 ≤ c.toNat ∧ c.toNat ≤ 57 := by simpa [digB] using h
      exact .inl ⟨this.1, this.2, e⟩
    · exact .inr ⟨rfl, e⟩
  have hm : markN c = none := by
    unfold markN
    rw [if_neg (by omega), if_neg (by omega), if_neg (by omega), if_neg (by omega)]
  have hl : ¬ letB c = true := by
    intro e
    have : 97 ≤ c.toNat ∧ c.toNat ≤ 122 ∨ 65 ≤ c.toNat ∧ c.toNat ≤ 90 ∨ c.toNat = 95 := by simpa [letB] using e
    omega
  have hs : (if c.toNat = 45 then 1 else 0) = sg := by split <;> omega
  simp only [tokN, hm]
  rw [if_neg hl, if_neg (by omega), hs, if_neg hn]
theorem toks_num {v : Int} (hv : I64 v) {r : List UInt8} (hr : stops digB r) : toks (itoa v ++ r) = (toks r).map fun y => ⟨1, [], v⟩ :: y := by
  have hp : numT (itoa v) = v := by unfold numT; rw [parse_itoa hv]
  by_cases h : v < 0
  · rw [itoa_min h] at hp ⊢
    have hs := span_app digB (decDigits v.natAbs) r (dec_digs _) hr
    have hl : (decDigits v.natAbs).length ≠ 0 := fun e => dd_ne _ (List.eq_nil_of_length_eq_zero e)
    have hd : (45 :: (decDigits v.natAbs ++ r)).drop 1 = decDigits v.natAbs ++ r := rfl
    have ht : tokN (45 :: decDigits v.natAbs ++ r) = some (⟨1, [], v⟩, 1 + (decDigits v.natAbs).length) := by
      show tokN (45 :: (decDigits v.natAbs ++ r)) = _
      rw [tok_num (sg := 1) (.inr ⟨rfl, rfl⟩) (by rw [hd, hs]; exact hl), hd, hs]
      rw [show (45 :: (decDigits v.natAbs ++ r)).take (1 + (decDigits v.natAbs).length) = 45 :: decDigits v.natAbs by rw [Nat.add_comm, List.take_succ_cons, List.take_left']; rfl, hp]
    rw [toks_of_tok ht (fun d q e => by injection e with e1 e2; subst e1; decide), show 1 + (decDigits v.natAbs).length = (45 :: decDigits v.natAbs).length by simp; omega, List.drop_left']
    rfl
  · rw [itoa_pos (by omega)] at hp ⊢
    have hs := span_app digB (decDigits v.toNat) r (dec_digs _) hr
    obtain ⟨c, w, hw⟩ := List.exists_cons_of_ne_nil (dd_ne v.toNat)
    have hc := dec_digs v.toNat c (by rw [hw]; simp)
    rw [hw] at hs hp ⊢
    have ht : tokN (c :: w ++ r) = some (⟨1, [], v⟩, (c :: w).length) := by
      show tokN (c :: (w ++ r)) = _
      have hd : (c :: (w ++ r)).drop 0 = c :: w ++ r := rfl
      rw [tok_num (sg := 0) (.inl ⟨hc, rfl⟩) (by rw [hd, hs]; simp), hd, hs, Nat.zero_add]
      rw [show (c :: (w ++ r)).take (c :: w).length = c :: w from List.take_left' rfl, hp]
    have hcn : 48 ≤ c.toNat ∧ c.toNat ≤ 57 := by simpa [digB] using hc
    rw [toks_of_tok ht (fun d q e => by injection e with e1 e2; subst e1; omega), List.drop_left']
    rfl
end Go.Proofs.YtmmnkoeajdeldaaGreatDoor.Pl
namespace Go.Proofs.YtmmnkoeajdeldaaGreatDoor.Pl
open Go.RowKit
open Go.Lib (itoa decDigits)
set_option linter.unusedVariables false
set_option linter.unusedSimpArgs false
def nameO (op : Nat) : List UInt8 := opNs.getD (op - 1) []
def rT (r : Nat) : List UInt8 := 114 :: itoa (r : Int)
def piecesI (x : Ins) : List (List UInt8) := if formN x.op = 1 then [rT x.a, rT x.b, rT x.c] else if formN x.op = 2 then [rT x.a, rT x.b, itoa x.imm] else if formN x.op = 3 then [rT x.a, itoa x.imm] else if formN x.op = 4 then [rT x.a, itoa x.imm ++ 40 :: (rT x.b ++ [41])] else [itoa x.imm]
def textI (x : Ins) : List UInt8 := if encE x = 0 then nameO x.op ++ 32 :: Lib.join (piecesI x) [44, 32] else []
theorem names_all : ((List.range 32).all fun op => op == 0 || (opN (nameO op) == some op && nameO op != wLi && nameO op != wLa && nameO op != wRaw && nameO op != wText && nameO op != wWord && nameO op != wRoom && (nameO op).all lodB && decide ((nameO op).length ≤ 10) && (match nameO op with | [] => false | c :: _ => letB c))) = true := by kernel_rfl
theorem names_ok (op : Nat) (h2 : op < 32) (h1 : 1 ≤ op) : opN (nameO op) = some op ∧ nameO op ≠ wLi ∧ nameO op ≠ wLa ∧ nameO op ≠ wRaw ∧ nameO op ≠ wText ∧ nameO op ≠ wWord ∧ nameO op ≠ wRoom ∧ (∀ c ∈ nameO op, lodB c = true) ∧ (nameO op).length ≤ 10 ∧ (match nameO op with | [] => false | c :: _ => letB c) = true := by
  have h := List.all_eq_true.1 names_all op (List.mem_range.2 h2)
  simp only [Bool.or_eq_true, Bool.and_eq_true, beq_iff_eq, bne_iff_ne, decide_eq_true_eq, List.all_eq_true] at h
  rcases h with h | ⟨⟨⟨⟨⟨⟨⟨⟨⟨a, b⟩, c⟩, d⟩, e⟩, f⟩, g⟩, i⟩, j⟩, k⟩
  · omega
  · exact ⟨a, b, c, d, e, f, g, i, j, k⟩
theorem regs_all : ((List.range 16).all fun r => regN (rT r) == some r) = true := by kernel_rfl
theorem regs_ok (r : Nat) (h : r < 16) : regN (rT r) = some r := by
  have h := List.all_eq_true.1 regs_all r (List.mem_range.2 h)
  simpa using h
theorem toks_name {op : Nat} (h1 : 1 ≤ op) (h2 : op < 32) {r : List UInt8} (hr : stops lodB r) : toks (nameO op ++ r) = (toks r).map fun y => ⟨0, nameO op, 0⟩ :: y := by
  obtain ⟨-, -, -, -, -, -, -, hl, -, hh⟩ := names_ok op h2 h1
  refine toks_word hl ?_ hr
  revert hh
  cases nameO op with
  | nil => intro h; cases h
  | cons c w => intro h; exact ⟨c, w, rfl, h⟩
theorem toks_reg (n : Nat) {r : List UInt8} (hr : stops lodB r) : toks (rT n ++ r) = (toks r).map fun y => ⟨0, rT n, 0⟩ :: y := by
  refine toks_word (fun c hc => ?_) ⟨114, itoa n, rfl, rfl⟩ hr
  rcases List.mem_cons.1 hc with rfl | hc
  · rfl
  · rw [itoa_pos (by omega)] at hc
    have := dec_digs _ c hc
    simp [lodB, this]
theorem toks_cs (r : List UInt8) : toks (44 :: 32 :: r) = (toks r).map fun y => ⟨2, [], 0⟩ :: y := by rw [toks_mark (k := 2) rfl, toks_sp]
def tW (s : List UInt8) : Tk := ⟨0, s, 0⟩
def tM (k : Nat) : Tk := ⟨k, [], 0⟩
def tN (v : Int) : Tk := ⟨1, [], v⟩
def tksI (x : Ins) : List Tk := tW (nameO x.op) :: (if formN x.op = 1 then [tW (rT x.a), tM 2, tW (rT x.b), tM 2, tW (rT x.c)] else if formN x.op = 2 then [tW (rT x.a), tM 2, tW (rT x.b), tM 2, tN x.imm] else if formN x.op = 3 then [tW (rT x.a), tM 2, tN x.imm] else if formN x.op = 4 then [tW (rT x.a), tM 2, tN x.imm, tM 4, tW (rT x.b), tM 5] else [tN x.imm])
theorem toks_text {x : Ins} (h : encE x = 0) (hi : I64 x.imm) (ho : 1 ≤ x.op ∧ x.op < 32) : toks (textI x) = some (tksI x) := by
  unfold textI
  rw [if_pos h, toks_name ho.1 ho.2 (by rfl), toks_sp]
  have hreg : ∀ n, toks (rT n) = some [⟨0, rT n, 0⟩] := fun n => by
    have := toks_reg n (r := []) trivial
    rw [List.append_nil] at this
    rw [this]; rfl
  have hnum : toks (itoa x.imm) = some [⟨1, [], x.imm⟩] := by
    have := toks_num hi (r := []) trivial
    rw [List.append_nil] at this
    rw [this]; rfl
  unfold tksI piecesI
  have hcs : ∀ r, stops lodB (44 :: r) := fun _ => rfl
  have hcd : ∀ r, stops digB (40 :: r) := fun _ => rfl
  have hpe : ∀ r, stops lodB (41 :: r) := fun _ => rfl
  have e40 : ∀ r, toks (40 :: r) = (toks r).map fun y => ⟨4, [], 0⟩ :: y := fun r => toks_mark rfl r
  have e41 : ∀ r, toks (41 :: r) = (toks r).map fun y => ⟨5, [], 0⟩ :: y := fun r => toks_mark rfl r
  by_cases f1 : formN x.op = 1
  · simp only [if_pos f1, Lib.join, List.intercalate, List.intersperse, List.flatten_cons, List.flatten_nil, List.append_nil, List.append_assoc, List.cons_append, List.nil_append]
    rw [toks_reg _ (hcs _), toks_cs, toks_reg _ (hcs _), toks_cs, hreg]
    rfl
  by_cases f2 : formN x.op = 2
  · simp only [if_neg f1, if_pos f2, Lib.join, List.intercalate, List.intersperse, List.flatten_cons, List.flatten_nil, List.append_nil, List.append_assoc, List.cons_append, List.nil_append]
    rw [toks_reg _ (hcs _), toks_cs, toks_reg _ (hcs _), toks_cs, hnum]
    rfl
  by_cases f3 : formN x.op = 3
  · simp only [if_neg f1, if_neg f2, if_pos f3, Lib.join, List.intercalate, List.intersperse, List.flatten_cons, List.flatten_nil, List.append_nil, List.append_assoc, List.cons_append, List.nil_append]
    rw [toks_reg _ (hcs _), toks_cs, hnum]
    rfl
  by_cases f4 : formN x.op = 4
  · simp only [if_neg f1, if_neg f2, if_neg f3, if_pos f4, Lib.join, List.intercalate, List.intersperse, List.flatten_cons, List.flatten_nil, List.append_nil, List.append_assoc, List.cons_append, List.nil_append]
    rw [toks_reg _ (hcs _), toks_cs, toks_num hi (hcd _), e40, toks_reg _ (hpe _), e41]
    rfl
  · simp only [if_neg f1, if_neg f2, if_neg f3, if_neg f4, Lib.join, List.intercalate, List.intersperse, List.flatten_cons, List.flatten_nil, List.append_nil]
    rw [hnum]
    rfl
end Go.Proofs.YtmmnkoeajdeldaaGreatDoor.Pl
namespace Go.Proofs.YtmmnkoeajdeldaaGreatDoor.Pl
open Go.RowKit
open Go.Lib (itoa decDigits)
set_option linter.unusedVariables false
set_option linter.unusedSimpArgs false
theorem enc_op {x : Ins} (h : encE x = 0) : 1 ≤ x.op ∧ x.op < 32 := by
  by_cases h1 : x.op < 1 ∨ 31 < x.op
  · have hc : cls x.op = 0 := by unfold cls; rw [if_pos h1]
    unfold encE at h
    rw [if_pos hc] at h
    cases h
  · omega
/-- The parts of an instruction that may be. -/
theorem enc_parts {x : Ins} (h : encE x = 0) : x.a < 16 ∧ x.b < 16 ∧ x.c < 16 ∧ (formN x.op = 1 → x.imm = 0) ∧ (formN x.op ≠ 1 → x.c = 0) ∧ (formN x.op = 3 ∨ formN x.op = 5 → x.b = 0) ∧ (formN x.op = 5 → x.a = 0) ∧ (-32768 ≤ x.imm ∧ x.imm ≤ 65535) := by
  have ho := enc_op h
  have hc : (formN x.op = 1 ∧ cls x.op = 1) ∨ (formN x.op = 2 ∧ cls x.op = 4) ∨ (formN x.op = 3 ∧ cls x.op = 2) ∨ (formN x.op = 4 ∧ cls x.op = 4) ∨ (formN x.op = 5 ∧ cls x.op = 3) := by
    unfold formN cls; (repeat' split) <;> omega
  unfold encE at h
  have h0 : ¬ cls x.op = 0 := by omega
  rw [if_neg h0] at h
  by_cases h1 : 15 < x.a ∨ 15 < x.b ∨ 15 < x.c
  · rw [if_pos h1] at h; cases h
  rw [if_neg h1] at h
  by_cases h2 : over (cls x.op) x.a x.b x.c x.imm = true
  · rw [if_pos h2] at h; cases h
  rw [if_neg h2] at h
  have h2' : ¬ ((cls x.op = 1 ∧ x.imm ≠ 0) ∨ (cls x.op = 2 ∧ (x.b ≠ 0 ∨ x.c ≠ 0)) ∨ (cls x.op = 3 ∧ (x.a ≠ 0 ∨ x.b ≠ 0 ∨ x.c ≠ 0)) ∨ (cls x.op = 4 ∧ x.c ≠ 0)) := by simpa [over] using h2
  by_cases h3 : cls x.op ≠ 1 ∧ fits x.op x.imm = false
  · rw [if_pos h3] at h; cases h
  have h4 : cls x.op = 1 ∨ (-32768 ≤ x.imm ∧ x.imm ≤ 65535) := by
    by_cases h5 : cls x.op = 1
    · exact .inl h5
    · refine .inr ?_
      have h6 : fits x.op x.imm = true := by
        cases hf : fits x.op x.imm
        · exact absurd ⟨h5, hf⟩ h3
        · rfl
      unfold fits at h6
      split at h6 <;> simp at h6 <;> omega
  omega
theorem take_text (ln : Nat) {x : Ins} (h : encE x = 0) (S : St) : takeP ln (tksI x) S = .ok (addP (pcI ln x) S) := by
  have ho := enc_op h
  obtain ⟨hop, n1, n2, n3, n4, n5, n6, -, -, -⟩ := names_ok x.op ho.2 ho.1
  obtain ⟨pa, pb, pc, p1, p2, p3, p4, p5⟩ := enc_parts h
  have hl : takeP ln (tksI x) S = lineP ln (tksI x) S := by
    unfold tksI
    (repeat' split) <;> rfl
  rw [hl]
  have hline : ∀ l, lineP ln (tW (nameO x.op) :: l) S = insP ln x.op l S := fun l => by
    unfold lineP
    rw [wantP_yes (show (tW (nameO x.op)).k = 0 from rfl)]
    show (if (tW (nameO x.op)).s = wLi then _ else _) = _
    rw [if_neg (show (tW (nameO x.op)).s ≠ wLi from n1), if_neg (show (tW (nameO x.op)).s ≠ wLa from n2), if_neg (show (tW (nameO x.op)).s ≠ wRaw from n3), if_neg (show (tW (nameO x.op)).s ≠ wText from n4), if_neg (show (tW (nameO x.op)).s ≠ wWord from n5), if_neg (show (tW (nameO x.op)).s ≠ wRoom from n6)]
    show (match opN (nameO x.op) with | none => _ | some op => _) = _
    rw [hop]
  unfold tksI
  rw [hline, insP_eq ln x.op _ S ho.1 (by omega)]
  have ra : tkOk 8 (tW (rT x.a)) = true := by unfold tkOk tW; simp [regs_ok x.a pa]
  have rb : tkOk 8 (tW (rT x.b)) = true := by unfold tkOk tW; simp [regs_ok x.b pb]
  have rc : tkOk 8 (tW (rT x.c)) = true := by unfold tkOk tW; simp [regs_ok x.c pc]
  have ga : ∀ l i, (tg l i).s = rT x.a → rg l i = x.a := fun l i e => by unfold rg; rw [e, regs_ok x.a pa]; rfl
  have gb : ∀ l i, (tg l i).s = rT x.b → rg l i = x.b := fun l i e => by unfold rg; rw [e, regs_ok x.b pb]; rfl
  have gc : ∀ l i, (tg l i).s = rT x.c → rg l i = x.c := fun l i e => by unfold rg; rw [e, regs_ok x.c pc]; rfl
  have hf : ∀ y : Ins, { y with imm := x.imm } = x → finI ln x.op S (y, tN x.imm) = .ok (addP (pcI ln x) S) := fun y hy => by
    unfold finI
    show (if (1 : Nat) = 0 then _ else (fitP y x.imm >>= fun n => Except.ok (addP (pcI ln { y with imm := n }) S))) = _
    rw [if_neg (by decide)]
    rw [fit_ok (x := y) (v := x.imm) (by rw [hy]; exact h) (by omega) (by omega)]
    show Except.ok (addP (pcI ln { y with imm := x.imm }) S) = _
    rw [hy]
  have hx : ∀ a b c : Nat, ∀ v : Int, x.a = a → x.b = b → x.c = c → x.imm = v → (⟨x.op, a, b, c, v⟩ : Ins) = x := fun a b c v h1 h2 h3 h4 => by rw [← h1, ← h2, ← h3, ← h4]
  have hfo : formN x.op = 1 ∨ formN x.op = 2 ∨ formN x.op = 3 ∨ formN x.op = 4 ∨ formN x.op = 5 := by
    unfold formN; (repeat' split) <;> omega
  rcases hfo with f | f | f | f | f
  · simp only [f, if_true]
    rw [if_pos (by show (tkOk 8 _ && (tkOk 2 _ && (tkOk 8 _ && (tkOk 2 _ && (tkOk 8 _ && true))))) = true; rw [ra, rb, rc]; rfl)]
    have e : insI x.op 1 [tW (rT x.a), tM 2, tW (rT x.b), tM 2, tW (rT x.c)] = (⟨x.op, x.a, x.b, x.c, 0⟩, ⟨1, [], 0⟩) := by
      unfold insI
      rw [if_pos rfl, ga _ 0 rfl, gb _ 2 rfl, gc _ 4 rfl]
    rw [e]
    have h0 := p1 f
    have := hf ⟨x.op, x.a, x.b, x.c, 0⟩ (hx _ _ _ _ rfl rfl rfl rfl)
    rw [h0] at this
    exact this
  · simp only [f]
    rw [if_pos (by show (tkOk 8 _ && (tkOk 2 _ && (tkOk 8 _ && (tkOk 2 _ && (tkOk 9 _ && true))))) = true; rw [ra, rb]; rfl)]
    have e : insI x.op 2 [tW (rT x.a), tM 2, tW (rT x.b), tM 2, tN x.imm] = (⟨x.op, x.a, x.b, 0, 0⟩, tN x.imm) := by
      unfold insI
      rw [if_neg (by decide), if_pos rfl, ga _ 0 rfl, gb _ 2 rfl]
      rfl
    exact (congrArg _ e).trans (hf _ (hx _ _ _ _ rfl rfl (p2 (by omega)) rfl))
  · simp only [f]
    rw [if_pos (by show (tkOk 8 _ && (tkOk 2 _ && (tkOk 9 _ && true))) = true; rw [ra]; rfl)]
    have e : insI x.op 3 [tW (rT x.a), tM 2, tN x.imm] = (⟨x.op, x.a, 0, 0, 0⟩, tN x.imm) := by
      unfold insI
      rw [if_neg (by decide), if_neg (by decide), if_pos rfl, ga _ 0 rfl]
      rfl
    exact (congrArg _ e).trans (hf _ (hx _ _ _ _ rfl (p3 (by omega)) (p2 (by omega)) rfl))
  · simp only [f]
    rw [if_pos (by show (tkOk 8 _ && (tkOk 2 _ && (tkOk 9 _ && (tkOk 4 _ && (tkOk 8 _ && (tkOk 5 _ && true)))))) = true; rw [ra, rb]; rfl)]
    have e : insI x.op 4 [tW (rT x.a), tM 2, tN x.imm, tM 4, tW (rT x.b), tM 5] = (⟨x.op, x.a, x.b, 0, 0⟩, tN x.imm) := by
      unfold insI
      rw [if_neg (by decide), if_neg (by decide), if_neg (by decide), if_pos rfl, ga _ 0 rfl, gb _ 4 rfl]
      rfl
    exact (congrArg _ e).trans (hf _ (hx _ _ _ _ rfl rfl (p2 (by omega)) rfl))
  · simp only [f]
    rw [if_pos (by rfl)]
    exact hf _ (hx _ _ _ _ (p4 f) (p3 (by omega)) (p2 (by omega)) rfl)
end Go.Proofs.YtmmnkoeajdeldaaGreatDoor.Pl
namespace Go.Proofs.YtmmnkoeajdeldaaGreatDoor.Pl
open Go.RowKit
open Go.Lib (itoa decDigits)
set_option linter.unusedVariables false
set_option linter.unusedSimpArgs false
def rawT (w : Nat) : List UInt8 := wRaw ++ 32 :: itoa (w : Int)
def lineW (w : Nat) : List UInt8 := if decOk w then textI (decX w) else rawT w
def pcW (n w : Nat) : Pc := if decOk w then pcI n (decX w) else ⟨n, ⟨0, 0, 0, 0, 0⟩, true, w, false, [], 0⟩
theorem decOk_iff {w : Nat} (h : decOk w = true) : encE (decX w) = 0 ∧ wordOf (decX w) = w := by simpa [decOk] using h
theorem one_raw (n w : Nat) (hw : w < 4294967296) (S : St) : oneL n (rawT w) S = .ok (addP ⟨n, ⟨0, 0, 0, 0, 0⟩, true, w, false, [], 0⟩ S) := by
  have ht : toks (rawT w) = some [tW wRaw, tN (w : Int)] := by
    unfold rawT
    rw [toks_word (w := wRaw) (by decide) ⟨114, [97, 119], rfl, rfl⟩ (by rfl), toks_sp]
    have := toks_num (v := (w : Int)) ⟨by omega, by omega⟩ (r := []) trivial
    rw [List.append_nil] at this
    rw [this]
    rfl
  unfold oneL
  rw [ht]
  have e : takeP n [tW wRaw, tN (w : Int)] S = .ok (addP ⟨n, ⟨0, 0, 0, 0, 0⟩, true, w, false, [], 0⟩ S) := by
    show rawP n [tN (w : Int)] S = _
    rw [rawP_eq, if_pos (show okP [1] [tN (w : Int)] = true from rfl)]
    show (inP (w : Int) 0 4294967295 >>= fun _ => Except.ok (addP ⟨n, ⟨0, 0, 0, 0, 0⟩, true, u32N (w : Int), false, [], 0⟩ S)) = _
    have hu : u32N (w : Int) = w := by unfold u32N; omega
    unfold inP
    rw [if_neg (by omega), hu]
    rfl
  simp only [e]
theorem one_word (n w : Nat) (hw : w < 4294967296) (S : St) : oneL n (lineW w) S = .ok (addP (pcW n w) S) := by
  unfold lineW pcW
  cases h : decOk w
  · exact one_raw n w hw S
  · have hd := decOk_iff h
    have hp := enc_parts hd.1
    simp only [if_true]
    unfold oneL
    rw [toks_text hd.1 ⟨by omega, by omega⟩ (enc_op hd.1)]
    simp only [take_text n hd.1 S]
def pcsW : Nat → List Nat → List Pc
  | _, [] => []
  | n, w :: r => pcW (n + 1) w :: pcsW (n + 1) r
theorem lines_words : ∀ (l : List Nat) (n : Nat) (P : List Pc) (D : List UInt8) (O : List Nat) (N : List (List UInt8 × Nat × Nat)), (∀ w ∈ l, w < 4294967296) → linesP n (l.map lineW) ⟨P, D, O, N⟩ = .ok ⟨P ++ pcsW n l, D, O, N⟩
  | [], n, P, D, O, N, _ => by simp [linesP, pcsW]
  | w :: r, n, P, D, O, N, h => by
    rw [List.map_cons, linesP_one, one_word _ _ (h w (by simp))]
    simp only [addP]
    rw [lines_words r (n + 1) _ _ _ _ fun x hx => h x (List.mem_cons_of_mem _ hx)]
    simp [pcsW]
theorem enc_pcW (S : St) (n w i : Nat) : encP S (pcW n w) i = .ok w := by
  unfold pcW
  cases h : decOk w
  · rfl
  · have hd := decOk_iff h
    show (if encE (decX w) = 0 then Except.ok (wordOf (decX w)) else _) = _
    rw [if_pos hd.1, hd.2]
theorem words_pcsW (S : St) : ∀ (l : List Nat) (n i : Nat), wordsP S i (pcsW n l) = .ok l
  | [], _, _ => rfl
  | w :: r, n, i => by simp only [pcsW, wordsP, enc_pcW, words_pcsW S r (n + 1) (i + 1)]
theorem rest_words (l : List Nat) (h : ∀ w ∈ l, w < 4294967296) : restL 0 (l.map lineW) St.nil = .ok ⟨l, [], 0, 0⟩ := by
  unfold restL St.nil
  rw [lines_words l 0 _ _ _ _ h]
  simp only [List.nil_append]
  unfold progP
  simp only [words_pcsW]
  rfl
theorem no10_lod {s : List UInt8} (h : ∀ c ∈ s, lodB c = true) : (10 : UInt8) ∉ s := fun e => by have := h 10 e; revert this; decide
theorem no10_itoa (v : Int) : (10 : UInt8) ∉ itoa v := by
  have hd : ∀ n, (10 : UInt8) ∉ decDigits n := fun n e => by have := dec_digs n 10 e; revert this; decide
  by_cases h : v < 0
  · rw [itoa_min h]; intro e
    rcases List.mem_cons.1 e with e | e
    · revert e; decide
    · exact hd _ e
  · rw [itoa_pos (by omega)]; exact hd _
theorem no10_reg (r : Nat) : (10 : UInt8) ∉ rT r := fun e => by
  rcases List.mem_cons.1 e with e | e
  · revert e; decide
  · exact no10_itoa _ e
theorem lineW_ok (w : Nat) (hw : w < 4294967296) : (10 : UInt8) ∉ lineW w ∧ (lineW w).length ≤ 100 := by
  have hi : (itoa (w : Int)).length ≤ 20 := (itoa_len (v := (w : Int)) ⟨by omega, by omega⟩).2
  unfold lineW
  cases h : decOk w
  · refine ⟨?_, by simp [rawT, wRaw]; omega⟩
    simp [rawT, wRaw, no10_itoa]
  · have hd := decOk_iff h
    have ho := enc_op hd.1
    have hp := enc_parts hd.1
    have h1 := (itoa_len (v := (decX w).imm) ⟨by omega, by omega⟩).2
    have h2 := (itoa_len (v := ((decX w).a : Int)) ⟨by omega, by omega⟩).2
    have h3 := (itoa_len (v := ((decX w).b : Int)) ⟨by omega, by omega⟩).2
    have h4 := (itoa_len (v := ((decX w).c : Int)) ⟨by omega, by omega⟩).2
    obtain ⟨-, -, -, -, -, -, -, hn, hl, -⟩ := names_ok _ ho.2 ho.1
    have n1 := no10_lod hn
    have n2 := no10_reg (decX w).a
    have n3 := no10_reg (decX w).b
    have n4 := no10_reg (decX w).c
    have n5 := no10_itoa (decX w).imm
    have l2 : (rT (decX w).a).length ≤ 21 := by simp [rT]; omega
    have l3 : (rT (decX w).b).length ≤ 21 := by simp [rT]; omega
    have l4 : (rT (decX w).c).length ≤ 21 := by simp [rT]; omega
    simp only [if_true]
    unfold textI piecesI
    rw [if_pos hd.1]
    (repeat' split) <;> simp [Lib.join, List.intercalate, List.intersperse, n1, n2, n3, n4, n5] <;> omega
/-- The law. -/
theorem mk_words (l : List Nat) (h : ∀ w ∈ l, w < 4294967296) (hl : l.length ≤ 200) : mkP (joinN (l.map lineW)) = .ok ⟨l, [], 0, 0⟩ ∧ (joinN (l.map lineW)).length ≤ 20200 := by
  have hm : ∀ x ∈ l.map lineW, (10 : UInt8) ∉ x ∧ x.length ≤ 100 := fun x hx => by
    obtain ⟨w, hw, rfl⟩ := List.mem_map.1 hx
    exact lineW_ok w (h w hw)
  have hj := joinN_le (N := 100) fun x hx => (hm x hx).2
  rw [List.length_map] at hj
  have hL : linesN (joinN (l.map lineW)) = l.map lineW := linesN_join _ fun x hx => (hm x hx).1
  refine ⟨?_, by omega⟩
  rw [mk_small (by omega) (by rw [hL, List.length_map]; omega), hL]
  exact rest_words l h
end Go.Proofs.YtmmnkoeajdeldaaGreatDoor.Pl
namespace Go.Proofs.YtmmnkoeajdeldaaGreatDoor.Pl
open Go.RowKit
open Go.Lib (itoa decDigits)
set_option linter.unusedVariables false
set_option linter.unusedSimpArgs false
def hexC (n : Nat) : UInt8 := [48, 49, 50, 51, 52, 53, 54, 55, 56, 57, 97, 98, 99, 100, 101, 102].getD n 0
/-- A byte in a quote. -/
def qB (c : UInt8) : List UInt8 := if c.toNat = 34 ∨ c.toNat = 92 then [92, c] else if c.toNat = 10 then [92, 110] else if 32 ≤ c.toNat ∧ c.toNat ≤ 126 then [c] else [92, 120, hexC (c.toNat / 16), hexC (c.toNat % 16)]
def quoB (s : List UInt8) : List UInt8 := s.flatMap qB
def quoT (s : List UInt8) : List UInt8 := 34 :: (quoB s ++ [34])
theorem hex_all : ((List.range 16).all fun n => hexN (hexC n) == some n && hexC n != 10) = true := by kernel_rfl
theorem hex_ok (n : Nat) (h : n < 16) : hexN (hexC n) = some n ∧ hexC n ≠ 10 := by
  have h := List.all_eq_true.1 hex_all n (List.mem_range.2 h)
  simp only [Bool.and_eq_true, beq_iff_eq, bne_iff_ne] at h
  exact h
theorem quo_quoB (r : List UInt8) : ∀ s : List UInt8, quo (quoB s ++ 34 :: r) = some (s, (quoB s).length + 1)
  | [] => by
    show quo (34 :: r) = _
    rw [quo_cons, if_pos (by decide)]; rfl
  | c :: s => by
    have ih := quo_quoB r s
    have e : quoB (c :: s) = qB c ++ quoB s := rfl
    rw [e, List.append_assoc]
    obtain ⟨T, hT⟩ : ∃ T, quoB s ++ 34 :: r = T := ⟨_, rfl⟩
    rw [hT] at ih ⊢
    have hc := c.toNat_lt
    unfold qB
    split
    · rename_i h
      show quo (92 :: c :: T) = _
      rw [quo_cons, if_neg (by decide), if_pos (by decide)]
      have he : esc (c :: T) = some (c, 1) := by simp only [esc]; rw [if_pos h]
      rw [he]
      simp only [List.drop_succ_cons, List.drop_zero, ih, Option.map_some]
      simp; omega
    split
    · rename_i h1 h
      show quo (92 :: 110 :: T) = _
      rw [quo_cons, if_neg (by decide), if_pos (by decide)]
      have he : esc (110 :: T) = some (10, 1) := rfl
      have hc10 : c = 10 := UInt8.toNat_inj.1 h
      rw [he]
      simp only [List.drop_succ_cons, List.drop_zero, ih, Option.map_some, hc10]
      simp; omega
    split
    · rename_i h1 h2 h
      show quo (c :: T) = _
      rw [quo_cons, if_neg (by omega), if_neg (by omega), if_pos h, ih]
      simp; omega
    · rename_i h1 h2 h
      show quo (92 :: 120 :: hexC (c.toNat / 16) :: hexC (c.toNat % 16) :: T) = _
      rw [quo_cons, if_neg (by decide), if_pos (by decide)]
      have he : esc (120 :: hexC (c.toNat / 16) :: hexC (c.toNat % 16) :: T) = some (c, 3) := by
        simp only [esc]
        rw [if_neg (by decide), if_neg (by decide), if_pos (by decide)]
        simp only [(hex_ok (c.toNat / 16) (by omega)).1, (hex_ok (c.toNat % 16) (by omega)).1]
        rw [show 16 * (c.toNat / 16) + c.toNat % 16 = c.toNat by omega, UInt8.ofNat_toNat]
      rw [he]
      simp only [List.drop_succ_cons, List.drop_zero, ih, Option.map_some]
      simp; omega
theorem toks_quo (s : List UInt8) : toks (quoT s) = some [⟨6, s, 0⟩] := by
  have hq := quo_quoB [] s
  have ht : tokN (quoT s) = some (⟨6, s, 0⟩, (quoT s).length) := by
    have hm : markN 34 = none := rfl
    have hl : ¬ letB 34 = true := by decide
    show tokN (34 :: (quoB s ++ [34])) = _
    simp only [tokN, hm]
    rw [if_neg hl, if_pos (by decide), hq]
    simp [quoT]
  rw [toks_of_tok ht (fun c r e => by unfold quoT at e; injection e with e1 e2; subst e1; decide), List.drop_length, toks_nil]
  rfl
def padN (n : Nat) : Nat := up n 4 - n
/-- May a program be listed? -/
def listB (x : Exe) : Bool := decide (0 ≤ x.room ∧ x.room ≤ 65536 ∧ x.text.length ≤ 150 ∧ x.data.length ≤ 8000 ∧ (0 < x.room → (padN x.data.length : Int) ≤ x.room) ∧ (x.entry = 0 ∨ x.entry % 4 = 0 ∧ x.entry / 4 < x.text.length))
def startT : List UInt8 := wStart ++ [58]
def lineE (en i w : Nat) : List (List UInt8) := if en ≠ 0 ∧ en / 4 = i then [startT, lineW w] else [lineW w]
def linesE (en : Nat) : Nat → List Nat → List (List UInt8)
  | _, [] => []
  | i, w :: r => lineE en i w ++ linesE en (i + 1) r
def wData : List UInt8 := [100, 97, 116, 97]
def dataL (s : List UInt8) : List UInt8 := wText ++ 32 :: (wData ++ 32 :: quoT s)
def roomL (n : Int) : List UInt8 := wRoom ++ 32 :: (wRoom ++ 32 :: itoa n)
def dataLs (x : Exe) : List (List UInt8) := if x.data = [] then [] else [dataL x.data]
def roomLs (x : Exe) : List (List UInt8) := if x.room = 0 then [] else [roomL (x.room - (padN x.data.length : Int))]
def linesX (x : Exe) : List (List UInt8) := linesE x.entry 0 x.text ++ (dataLs x ++ roomLs x)
/-- A program as a text. -/
def listT (x : Exe) : List UInt8 := if listB x then joinN (linesX x) else []
def nmE (en i n : Nat) : List (List UInt8 × Nat × Nat) := if en ≠ 0 ∧ i ≤ en / 4 ∧ en / 4 < i + n then [(wStart, 0, en / 4)] else []
theorem one_start (n : Nat) (S : St) (h : lookN wStart S.names = none) : oneL n startT S = .ok { S with names := S.names ++ [(wStart, 0, S.pcs.length)] } := by
  have ht : toks startT = some [tW wStart, ⟨3, [], 0⟩] := by kernel_rfl
  unfold oneL
  rw [ht]
  have e : takeP n [tW wStart, ⟨3, [], 0⟩] S = nameP wStart 0 S.pcs.length S := rfl
  simp only [e]
  unfold nameP
  rw [h]
  rfl
theorem lines_cons_ok {n : Nat} {l : List UInt8} {r : List (List UInt8)} {S S1 : St} (h : oneL (n + 1) l S = .ok S1) : linesP n (l :: r) S = linesP (n + 1) r S1 := by
  rw [linesP_one, h]
theorem lines_list (en : Nat) : ∀ (l : List Nat) (n i : Nat) (P : List Pc) (N : List (List UInt8 × Nat × Nat)), (∀ w ∈ l, w < 4294967296) → P.length = i → (en ≠ 0 → i ≤ en / 4 → N = []) →
    ∃ Q, (∀ R, linesP n (linesE en i l ++ R) ⟨P, [], [], N⟩ = linesP (n + (linesE en i l).length) R ⟨P ++ Q, [], [], N ++ nmE en i l.length⟩) ∧ Q.length = l.length ∧ ∀ S j, wordsP S j Q = .ok l
  | [], n, i, P, N, _, _, _ => ⟨[], fun R => by
    have e : nmE en i 0 = [] := by unfold nmE; rw [if_neg (by omega)]
    simp [linesE, e], rfl, fun _ _ => rfl⟩
  | w :: r, n, i, P, N, hw, hP, hN => by
    have hw0 := hw w (by simp)
    have hr : ∀ x ∈ r, x < 4294967296 := fun x hx => hw x (List.mem_cons_of_mem _ hx)
    by_cases h : en ≠ 0 ∧ en / 4 = i
    · have hn0 := hN h.1 (by omega)
      subst hn0
      obtain ⟨Q, h1, h2, h3⟩ := lines_list en r (n + 2) (i + 1) (P ++ [pcW (n + 2) w]) [(wStart, 0, en / 4)] hr (by simp [hP]) (fun _ _ => by omega)
      refine ⟨pcW (n + 2) w :: Q, fun R => ?_, by simp [h2], fun S j => by rw [wordsP, enc_pcW, h3]⟩
      have e : linesE en i (w :: r) = startT :: lineW w :: linesE en (i + 1) r := by
        show lineE en i w ++ _ = _
        unfold lineE
        rw [if_pos h]; rfl
      rw [e, List.cons_append, List.cons_append, lines_cons_ok (one_start _ _ rfl), lines_cons_ok (one_word _ _ hw0 _)]
      have e2 : (⟨P ++ [pcW (n + 2) w], [], [], [(wStart, 0, en / 4)]⟩ : St) = addP (pcW (n + 1 + 1) w) { (⟨P, [], [], []⟩ : St) with names := [] ++ [(wStart, 0, P.length)] } := by
        rw [h.2, ← hP]; rfl
      have h1' := h1 R
      rw [e2] at h1'
      rw [show n + 1 + 1 = n + 2 from rfl] at h1' ⊢
      refine h1'.trans ?_
      have e3 : nmE en (i + 1) r.length = [] := by unfold nmE; rw [if_neg (by omega)]
      have e4 : nmE en i (w :: r).length = [(wStart, 0, en / 4)] := by unfold nmE; rw [if_pos (by simp; omega)]
      rw [e3, e4]
      simp
      rw [show n + 2 + (linesE en (i + 1) r).length = n + ((linesE en (i + 1) r).length + 1 + 1) by omega]
    · obtain ⟨Q, h1, h2, h3⟩ := lines_list en r (n + 1) (i + 1) (P ++ [pcW (n + 1) w]) N hr (by simp [hP]) (fun a b => hN a (by omega))
      refine ⟨pcW (n + 1) w :: Q, fun R => ?_, by simp [h2], fun S j => by rw [wordsP, enc_pcW, h3]⟩
      have e : linesE en i (w :: r) = lineW w :: linesE en (i + 1) r := by
        show lineE en i w ++ _ = _
        unfold lineE
        rw [if_neg h]; rfl
      rw [e, List.cons_append, lines_cons_ok (one_word _ _ hw0 _)]
      refine (h1 R).trans ?_
      have e4 : nmE en (i + 1) r.length = nmE en i (w :: r).length := by
        unfold nmE
        rw [List.length_cons]
        by_cases g : en ≠ 0 ∧ i + 1 ≤ en / 4 ∧ en / 4 < i + 1 + r.length
        · rw [if_pos g, if_pos (by omega)]
        · rw [if_neg g, if_neg (by omega)]
      rw [e4]
      simp
      rw [show n + 1 + (linesE en (i + 1) r).length = n + ((linesE en (i + 1) r).length + 1) by omega]
theorem one_data (n : Nat) (s : List UInt8) (S : St) (h : lookN wData S.names = none) : oneL n (dataL s) S = .ok { S with names := S.names ++ [(wData, 1, S.data.length)], data := S.data ++ s } := by
  have ht : toks (dataL s) = some [tW wText, tW wData, ⟨6, s, 0⟩] := by
    unfold dataL
    rw [toks_word (w := wText) (by decide) ⟨116, [101, 120, 116], rfl, rfl⟩ (by rfl), toks_sp, toks_word (w := wData) (by decide) ⟨100, [97, 116, 97], rfl, rfl⟩ (by rfl), toks_sp, toks_quo]
    rfl
  unfold oneL
  rw [ht]
  have e : takeP n [tW wText, tW wData, ⟨6, s, 0⟩] S = (nameP wData 1 S.data.length S >>= fun S1 => .ok { S1 with data := S.data ++ s }) := rfl
  simp only [e]
  unfold nameP
  rw [h]
  rfl
theorem one_room (n : Nat) (v : Int) (hv : 0 ≤ v ∧ v ≤ 65536) (S : St) (h : lookN wRoom S.names = none) : oneL n (roomL v) S = .ok { S with names := S.names ++ [(wRoom, 2, S.rooms.length)], rooms := S.rooms ++ [v.toNat] } := by
  have ht : toks (roomL v) = some [tW wRoom, tW wRoom, tN v] := by
    unfold roomL
    rw [toks_word (w := wRoom) (by decide) ⟨114, [111, 111, 109], rfl, rfl⟩ (by rfl), toks_sp, toks_word (w := wRoom) (by decide) ⟨114, [111, 111, 109], rfl, rfl⟩ (by rfl), toks_sp]
    have := toks_num (v := v) ⟨by omega, by omega⟩ (r := []) trivial
    rw [List.append_nil] at this
    rw [this]
    rfl
  unfold oneL
  rw [ht]
  have e : takeP n [tW wRoom, tW wRoom, tN v] S = (inP v 0 65536 >>= fun _ => nameP wRoom 2 S.rooms.length S >>= fun S1 => .ok { S1 with rooms := S.rooms ++ [v.toNat] }) := rfl
  simp only [e]
  unfold nameP inP
  rw [h, if_neg (by omega)]
  rfl
theorem up4_up128 (a n : Nat) : up (up (4 * a) 128 + n) 4 = up (4 * a) 128 + up n 4 := by
  unfold up; omega
theorem rest_list (x : Exe) (hw : ∀ w ∈ x.text, w < 4294967296) (hb : listB x = true) : restL 0 (linesX x) St.nil = .ok x := by
  have hb2 : 0 ≤ x.room ∧ x.room ≤ 65536 ∧ x.text.length ≤ 150 ∧ x.data.length ≤ 8000 ∧ (0 < x.room → (padN x.data.length : Int) ≤ x.room) ∧ (x.entry = 0 ∨ x.entry % 4 = 0 ∧ x.entry / 4 < x.text.length) := of_decide_eq_true hb
  obtain ⟨Q, h1, h2, h3⟩ := lines_list x.entry x.text 0 0 [] [] hw rfl (fun _ _ => rfl)
  unfold restL St.nil linesX
  rw [h1]
  obtain ⟨K, hK⟩ : ∃ K, 0 + (linesE x.entry 0 x.text).length = K := ⟨_, rfl⟩
  rw [hK]
  obtain ⟨N, hN⟩ : ∃ N, [] ++ nmE x.entry 0 x.text.length = N := ⟨_, rfl⟩
  rw [hN, List.nil_append]
  have hNd : lookN wData N = none := by rw [← hN]; unfold nmE; split <;> rfl
  have hNr : lookN wRoom N = none := by rw [← hN]; unfold nmE; split <;> rfl
  have hNs : (match lookN wStart N with | some v => if v.1 = 0 then 4 * v.2 else 0 | none => 0) = x.entry := by
    rw [← hN]; unfold nmE
    by_cases g : x.entry = 0
    · rw [if_neg (by omega), g]; rfl
    · rw [if_pos (by omega)]
      show 4 * (x.entry / 4) = x.entry
      omega
  have hN2 : N.any (fun p => p.2.1 == 2) = false := by rw [← hN]; unfold nmE; split <;> rfl
  have hdata : ∃ N1, (∀ R, linesP K (dataLs x ++ R) ⟨Q, [], [], N⟩ = linesP (K + (dataLs x).length) R ⟨Q, x.data, [], N1⟩) ∧ lookN wRoom N1 = none ∧ (∀ v, lookN wStart (N1 ++ v) = lookN wStart (N ++ v)) ∧ N1.any (fun p => p.2.1 == 2) = false := by
    unfold dataLs
    by_cases g : x.data = []
    · rw [if_pos g, g]
      exact ⟨N, fun R => rfl, hNr, fun v => rfl, hN2⟩
    · rw [if_neg g]
      refine ⟨N ++ [(wData, 1, 0)], fun R => ?_, ?_, fun v => ?_, ?_⟩
      · rw [List.singleton_append, lines_cons_ok (one_data _ _ _ hNd)]
        rfl
      · rw [← hN]; unfold nmE; split <;> rfl
      · rw [← hN]; unfold nmE; split <;> rfl
      · rw [← hN]; unfold nmE; split <;> rfl
  obtain ⟨N1, d1, d2, d3, d4⟩ := hdata
  rw [d1]
  obtain ⟨K2, hK2⟩ : ∃ K2, K + (dataLs x).length = K2 := ⟨_, rfl⟩
  rw [hK2]
  unfold roomLs
  obtain ⟨t, d, ro, en⟩ := x
  simp only at *
  by_cases g : ro = 0
  · rw [if_pos g]
    show progP _ = _
    unfold progP
    rw [h3]
    have e1 : roomN ⟨Q, d, [], N1⟩ = 0 := by unfold roomN; rw [d4]; rfl
    have e2 : entryN ⟨Q, d, [], N1⟩ = en := by
      rw [← hNs]
      unfold entryN
      have := d3 []
      rw [List.append_nil, List.append_nil] at this
      rw [this]
      cases lookN wStart N with
      | none => rfl
      | some v =>
        simp only [addrP]
        split <;> rfl
    simp only [e1, e2, g]
    rfl
  · rw [if_neg g, lines_cons_ok (one_room _ _ (by omega) _ d2)]
    show progP _ = _
    unfold progP
    rw [h3]
    have hpd : (padN d.length : Int) ≤ ro := hb2.2.2.2.2.1 (by omega)
    have e1 : roomN ⟨Q, d, [] ++ [(ro - (padN d.length : Int)).toNat], N1 ++ [(wRoom, 2, ([] : List Nat).length)]⟩ = ro.toNat := by
      unfold roomN
      rw [if_pos (by simp)]
      show up (dataAt _ + d.length) 4 + _ - (dataAt _ + d.length) = _
      unfold dataAt
      rw [up4_up128]
      unfold padN at hpd ⊢
      have : d.length ≤ up d.length 4 := by unfold up; omega
      simp only
      omega
    have e2 : entryN ⟨Q, d, [] ++ [(ro - (padN d.length : Int)).toNat], N1 ++ [(wRoom, 2, ([] : List Nat).length)]⟩ = en := by
      rw [← hNs]
      unfold entryN
      have := d3 [(wRoom, 2, ([] : List Nat).length)]
      have hl : lookN wStart (N ++ [(wRoom, 2, ([] : List Nat).length)]) = lookN wStart N := by
        rw [← hN]; unfold nmE; split <;> rfl
      simp only [this, hl]
      cases lookN wStart N with
      | none => rfl
      | some v =>
        simp only [addrP]
        split <;> rfl
    simp only [e1, e2]
    rw [Int.toNat_of_nonneg hb2.1]
theorem qB_ok (c : UInt8) : (10 : UInt8) ∉ qB c ∧ (qB c).length ≤ 4 := by
  have hc := c.toNat_lt
  unfold qB
  split
  · rename_i h
    refine ⟨fun e => ?_, by simp⟩
    simp only [List.mem_cons, List.not_mem_nil, or_false] at e
    rcases e with e | e
    · revert e; decide
    · rw [← e] at h; revert h; decide
  split
  · exact ⟨by decide, by simp⟩
  split
  · rename_i h1 h2 h3
    refine ⟨fun e => ?_, by simp⟩
    simp only [List.mem_cons, List.not_mem_nil, or_false] at e
    rw [← e] at h2; exact h2 rfl
  · refine ⟨fun e => ?_, by simp⟩
    simp only [List.mem_cons, List.not_mem_nil, or_false] at e
    rcases e with e | e | e | e
    · revert e; decide
    · revert e; decide
    · exact (hex_ok (c.toNat / 16) (by omega)).2 e.symm
    · exact (hex_ok (c.toNat % 16) (by omega)).2 e.symm
theorem quoB_ok : ∀ s : List UInt8, (10 : UInt8) ∉ quoB s ∧ (quoB s).length ≤ 4 * s.length
  | [] => ⟨by simp [quoB], by simp [quoB]⟩
  | c :: s => by
    have h := qB_ok c
    have ih := quoB_ok s
    have e : quoB (c :: s) = qB c ++ quoB s := rfl
    rw [e]
    exact ⟨by simp [h.1, ih.1], by simp; omega⟩
theorem linesE_ok (en : Nat) : ∀ (l : List Nat) (i : Nat), (∀ w ∈ l, w < 4294967296) → (∀ s ∈ linesE en i l, (10 : UInt8) ∉ s ∧ s.length ≤ 100) ∧ (linesE en i l).length ≤ 2 * l.length
  | [], _, _ => ⟨fun s hs => (by cases hs), Nat.le_refl _⟩
  | w :: r, i, h => by
    have ih := linesE_ok en r (i + 1) fun x hx => h x (List.mem_cons_of_mem _ hx)
    have hw := lineW_ok w (h w (by simp))
    have hl : (∀ s ∈ lineE en i w, (10 : UInt8) ∉ s ∧ s.length ≤ 100) ∧ (lineE en i w).length ≤ 2 := by
      unfold lineE
      split
      · refine ⟨fun s hs => ?_, by simp⟩
        simp only [List.mem_cons, List.not_mem_nil, or_false] at hs
        rcases hs with rfl | rfl
        · exact ⟨by decide, by decide⟩
        · exact hw
      · refine ⟨fun s hs => ?_, by simp⟩
        simp only [List.mem_cons, List.not_mem_nil, or_false] at hs
        rw [hs]; exact hw
    show (∀ s ∈ lineE en i w ++ linesE en (i + 1) r, _) ∧ (lineE en i w ++ linesE en (i + 1) r).length ≤ _
    refine ⟨fun s hs => ?_, by simp; omega⟩
    rcases List.mem_append.1 hs with hs | hs
    · exact hl.1 s hs
    · exact ih.1 s hs
theorem dataL_ok (s : List UInt8) : (10 : UInt8) ∉ dataL s ∧ (dataL s).length ≤ 4 * s.length + 12 := by
  have h := quoB_ok s
  unfold dataL quoT
  refine ⟨?_, by simp [wText, wData]; omega⟩
  simp [wText, wData, h.1]
theorem roomL_ok (v : Int) (hv : I64 v) : (10 : UInt8) ∉ roomL v ∧ (roomL v).length ≤ 100 := by
  have h := (itoa_len hv).2
  have h2 := no10_itoa v
  unfold roomL
  refine ⟨?_, by simp [wRoom]; omega⟩
  simp [wRoom, h2]
/-- The law. -/
theorem mk_list (x : Exe) (hw : ∀ w ∈ x.text, w < 4294967296) (hb : listB x = true) : mkP (joinN (linesX x)) = .ok x ∧ (joinN (linesX x)).length ≤ 65536 := by
  have hb2 : 0 ≤ x.room ∧ x.room ≤ 65536 ∧ x.text.length ≤ 150 ∧ x.data.length ≤ 8000 ∧ (0 < x.room → (padN x.data.length : Int) ≤ x.room) ∧ (x.entry = 0 ∨ x.entry % 4 = 0 ∧ x.entry / 4 < x.text.length) := of_decide_eq_true hb
  have hE := linesE_ok x.entry x.text 0 hw
  have hpad : padN x.data.length ≤ 3 := by unfold padN up; omega
  have hdl : ∀ s ∈ dataLs x, (10 : UInt8) ∉ s ∧ s.length ≤ 32012 := fun s hs => by
    unfold dataLs at hs
    split at hs
    · cases hs
    · rw [List.mem_singleton] at hs
      rw [hs]
      have := dataL_ok x.data
      exact ⟨this.1, by omega⟩
  have hrl : ∀ s ∈ roomLs x, (10 : UInt8) ∉ s ∧ s.length ≤ 100 := fun s hs => by
    unfold roomLs at hs
    split at hs
    · cases hs
    · rw [List.mem_singleton] at hs
      rw [hs]
      exact roomL_ok _ ⟨by omega, by omega⟩
  have hd1 : (dataLs x).length ≤ 1 := by unfold dataLs; split <;> simp
  have hr1 : (roomLs x).length ≤ 1 := by unfold roomLs; split <;> simp
  have hj1 := joinN_le (N := 100) fun s hs => (hE.1 s hs).2
  have hj2 := joinN_le (N := 32012) fun s hs => (hdl s hs).2
  have hj3 := joinN_le (N := 100) fun s hs => (hrl s hs).2
  have hlen : (joinN (linesX x)).length ≤ 65536 := by
    unfold linesX
    rw [joinN_app, joinN_app, List.length_append, List.length_append]
    have m1 := Nat.mul_le_mul_right 101 hE.2
    have m2 := Nat.mul_le_mul_right 32013 hd1
    have m3 := Nat.mul_le_mul_right 101 hr1
    omega
  have hL : linesN (joinN (linesX x)) = linesX x := linesN_join _ fun s hs => by
    unfold linesX at hs
    rcases List.mem_append.1 hs with hs | hs
    · exact (hE.1 s hs).1
    rcases List.mem_append.1 hs with hs | hs
    · exact (hdl s hs).1
    · exact (hrl s hs).1
  refine ⟨?_, hlen⟩
  rw [mk_small hlen (by rw [hL]; unfold linesX; simp; omega), hL]
  exact rest_list x hw hb
end Go.Proofs.YtmmnkoeajdeldaaGreatDoor.Pl
