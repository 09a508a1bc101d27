/- Plain Lean: a line, taken in the program's way, is the document's item with what it does. No program in sight. Plain Lean: a line, taken in the program's way, is the document's item with what it does; all lines. No program in sight. Plain Lean: the assembler in the program's way is the document's. No program in sight. Plain Lean: the assembler in the program's way is the document's: words, entry, all. No program in sight. Plain Lean: what is known of a program that a text makes. No program in sight. -/
import Derived.Test.YtmmnkoeajdeldaaGreatDoorAsGp
import Derived.Test.YtmmnkoeajdeldaaGreatDoorAsEq2
namespace Go.Proofs.YtmmnkoeajdeldaaGreatDoor.Pl
open Go.RowKit
open Go.Lib (itoa decDigits)
set_option linter.unusedVariables false
set_option linter.unusedSimpArgs false
def rTq (r : Nat) : List UInt8 := 114 :: itoa (r : Int)
theorem regs_allq : ((List.range 16).all fun r => regN (rTq r) == some r) = true := by kernel_rfl
theorem regs_okq (r : Nat) (h : r < 16) : regN (rTq r) = some r := by
  have h := List.all_eq_true.1 regs_allq r (List.mem_range.2 h)
  simpa using h
theorem enc_opq {x : Ins} (h : encE x = 0) : 1 ≤ x.op ∧ x.op < 32 := by
  by_cases h1 : x.op < 1 ∨ 31 < x.op
  · have hc : cls x.op = 0 := by unfold cls; rw [if_pos h1]
    unfold encE at h
    rw [if_pos hc] at h
    cases h
  · omega
theorem enc_partsq {x : Ins} (h : encE x = 0) : x.a < 16 ∧ x.b < 16 ∧ x.c < 16 ∧ (formN x.op = 1 → x.imm = 0) ∧ (formN x.op ≠ 1 → x.c = 0) ∧ (formN x.op = 3 ∨ formN x.op = 5 → x.b = 0) ∧ (formN x.op = 5 → x.a = 0) ∧ (-32768 ≤ x.imm ∧ x.imm ≤ 65535) := by
  have ho := enc_opq h
  have hc : (formN x.op = 1 ∧ cls x.op = 1) ∨ (formN x.op = 2 ∧ cls x.op = 4) ∨ (formN x.op = 3 ∧ cls x.op = 2) ∨ (formN x.op = 4 ∧ cls x.op = 4) ∨ (formN x.op = 5 ∧ cls x.op = 3) := by
    unfold formN cls; (repeat' split) <;> omega
  unfold encE at h
  have h0 : ¬ cls x.op = 0 := by omega
  rw [if_neg h0] at h
  by_cases h1 : 15 < x.a ∨ 15 < x.b ∨ 15 < x.c
  · rw [if_pos h1] at h; cases h
  rw [if_neg h1] at h
  by_cases h2 : over (cls x.op) x.a x.b x.c x.imm = true
  · rw [if_pos h2] at h; cases h
  rw [if_neg h2] at h
  have h2' : ¬ ((cls x.op = 1 ∧ x.imm ≠ 0) ∨ (cls x.op = 2 ∧ (x.b ≠ 0 ∨ x.c ≠ 0)) ∨ (cls x.op = 3 ∧ (x.a ≠ 0 ∨ x.b ≠ 0 ∨ x.c ≠ 0)) ∨ (cls x.op = 4 ∧ x.c ≠ 0)) := by simpa [over] using h2
  by_cases h3 : cls x.op ≠ 1 ∧ fits x.op x.imm = false
  · rw [if_pos h3] at h; cases h
  have h4 : cls x.op = 1 ∨ (-32768 ≤ x.imm ∧ x.imm ≤ 65535) := by
    by_cases h5 : cls x.op = 1
    · exact .inl h5
    · refine .inr ?_
      have h6 : fits x.op x.imm = true := by
        cases hf : fits x.op x.imm
        · exact absurd ⟨h5, hf⟩ h3
        · rfl
      unfold fits at h6
      split at h6 <;> simp at h6 <;> omega
  omega
theorem regD_all : ((List.range 16).all fun i => regD ⟨119, rTq i, 0, false⟩ == i) = true := by kernel_rfl
theorem rT_one : ((List.range 10).all fun i => rTq i == [114, UInt8.ofNat (48 + i)]) = true := by kernel_rfl
theorem rT_two : ((List.range 6).all fun i => rTq (10 + i) == [114, 49, UInt8.ofNat (48 + i)]) = true := by kernel_rfl
theorem regD_s (d : Dt) (h : d.k = 119) : regD d = regD ⟨119, d.s, 0, false⟩ := by unfold regD; rw [h]
theorem regD_some (s : List UInt8) (h : regD ⟨119, s, 0, false⟩ ≠ 16) : ∃ i, i < 16 ∧ s = rTq i := by
  unfold regD at h
  simp only [ne_eq, not_true_eq_false, if_false] at h
  rcases s with _ | ⟨a, _ | ⟨b, _ | ⟨c, _ | ⟨e, s⟩⟩⟩⟩
  · exact absurd rfl h
  · exact absurd rfl h
  · simp only at h
    by_cases g : a.toNat = 114 ∧ digB b = true
    · obtain ⟨g1, g2⟩ := g
      have g2 : 48 ≤ b.toNat ∧ b.toNat ≤ 57 := of_decide_eq_true g2
      have h1 := List.all_eq_true.1 rT_one (b.toNat - 48) (List.mem_range.2 (by omega))
      simp only [beq_iff_eq] at h1
      refine ⟨b.toNat - 48, by omega, ?_⟩
      have ha : a = 114 := UInt8.toNat_inj.1 g1
      have e3 : UInt8.ofNat (48 + (b.toNat - 48)) = b := by rw [show 48 + (b.toNat - 48) = b.toNat by omega, UInt8.ofNat_toNat]
      rw [h1, e3, ha]
    · rw [if_neg g] at h; exact absurd rfl h
  · simp only at h
    by_cases g : a.toNat = 114 ∧ b.toNat = 49 ∧ digB c = true ∧ c.toNat ≤ 53
    · obtain ⟨g1, g2, g3, g4⟩ := g
      have g3 : 48 ≤ c.toNat ∧ c.toNat ≤ 57 := of_decide_eq_true g3
      have h1 := List.all_eq_true.1 rT_two (c.toNat - 48) (List.mem_range.2 (by omega))
      simp only [beq_iff_eq] at h1
      refine ⟨10 + (c.toNat - 48), by omega, ?_⟩
      have ha : a = 114 := UInt8.toNat_inj.1 g1
      have hb : b = 49 := UInt8.toNat_inj.1 g2
      have e3 : UInt8.ofNat (48 + (c.toNat - 48)) = c := by rw [show 48 + (c.toNat - 48) = c.toNat by omega, UInt8.ofNat_toNat]
      rw [h1, e3, ha, hb]
    · rw [if_neg g] at h; exact absurd rfl h
  · exact absurd rfl h
theorem regF_is (s : List UInt8) : ∀ (f i j : Nat), regF s f i = some j → j < i + f ∧ s = rTq j
  | 0, i, j, h => by cases h
  | f + 1, i, j, h => by
    simp only [regF] at h
    split at h
    · next e => cases h; exact ⟨by omega, e⟩
    · have := regF_is s f (i + 1) j h
      exact ⟨by omega, this.2⟩
theorem regD_eq (d : Dt) (h : d.k = 119) : regD d = (regN d.s).getD 16 := by
  rw [regD_s d h]
  cases hr : regN d.s with
  | some j =>
    obtain ⟨h1, h2⟩ := regF_is _ _ _ _ hr
    have h3 := List.all_eq_true.1 regD_all j (List.mem_range.2 (by omega))
    simp only [beq_iff_eq] at h3
    rw [h2]; exact h3
  | none =>
    by_cases g : regD ⟨119, d.s, 0, false⟩ = 16
    · exact g
    · obtain ⟨i, hi, e⟩ := regD_some _ g
      rw [e, regs_okq i hi] at hr; cases hr
theorem regN_lt {s : List UInt8} {j : Nat} (h : regN s = some j) : j < 16 := by have := regF_is _ _ _ _ h; omega
theorem TksR.at : ∀ {a : List Tk} {b : List Dt} (h : TksR a b) (i : Nat), i < a.length → TkR (tg a i) (dg b i)
  | [], [], _, i, hi => by simp at hi
  | t :: a, d :: b, h, 0, _ => h.1
  | t :: a, d :: b, h, i + 1, hi => TksR.at h.2 i (by simpa using hi)
  | [], _ :: _, h, _, _ => h.elim
  | _ :: _, [], h, _, _ => h.elim
/-- A register's token: what the document says of it. -/
theorem reg_rel {t : Tk} {d : Dt} (h : TkR t d) (hk : t.k = 0) : regD d = (regN t.s).getD 16 := by
  rw [regD_eq d (by rw [h.k, hk]; rfl), h.s]
theorem reg_is {t : Tk} {d : Dt} (h : TkR t d) (hk : t.k = 0) (hr : (regN t.s).isSome = true) : regD d = (regN t.s).getD 0 ∧ ¬ 15 < regD d := by
  rw [reg_rel h hk]
  cases hr2 : regN t.s with
  | none => rw [hr2] at hr; cases hr
  | some j => have := regN_lt hr2; exact ⟨rfl, by simp; omega⟩
theorem reg_not {t : Tk} {d : Dt} (h : TkR t d) (hk : t.k = 0) (hr : ¬ (regN t.s).isSome = true) : 15 < regD d := by
  rw [reg_rel h hk]
  cases hr2 : regN t.s with
  | none => simp
  | some j => rw [hr2] at hr; exact absurd rfl hr
def rs (l : List Tk) (i : Nat) : Bool := (regN (tg l i).s).isSome
theorem ok_li (l : List Tk) (k : Nat) (hk : k < 8) : okP [8, 2, k] l = (decide (l.map Tk.k = [0, 2, k]) && rs l 0) := by
  rcases l with _ | ⟨t1, _ | ⟨t2, _ | ⟨t3, _ | ⟨t4, l⟩⟩⟩⟩ <;> simp [okP, tkOk, rs, tg, show ¬ k = 8 by omega, show ¬ k = 9 by omega]
  rw [Bool.eq_iff_iff]; simp; grind
theorem ok_1 (l : List Tk) (k : Nat) (hk : k < 8) : okP [k] l = decide (l.map Tk.k = [k]) := by
  rcases l with _ | ⟨t1, _ | ⟨t2, l⟩⟩ <;> simp [okP, tkOk, show ¬ k = 8 by omega, show ¬ k = 9 by omega]
  rw [Bool.eq_iff_iff]; simp
theorem ok_2 (l : List Tk) (k m : Nat) (hk : k < 8) (hm : m < 8) : okP [k, m] l = decide (l.map Tk.k = [k, m]) := by
  rcases l with _ | ⟨t1, _ | ⟨t2, _ | ⟨t3, l⟩⟩⟩ <;> simp [okP, tkOk, show ¬ k = 8 by omega, show ¬ k = 9 by omega, show ¬ m = 8 by omega, show ¬ m = 9 by omega]
  rw [Bool.eq_iff_iff]; simp
def kI (f k : Nat) : List Nat := if f = 1 then [0, 2, 0, 2, 0] else if f = 2 then [0, 2, 0, 2, k] else if f = 3 then [0, 2, k] else if f = 4 then [0, 2, k, 4, 0, 5] else [k]
def rI (f : Nat) (l : List Tk) : Bool := if f = 1 then rs l 0 && rs l 2 && rs l 4 else if f = 2 then rs l 0 && rs l 2 else if f = 3 then rs l 0 else if f = 4 then rs l 0 && rs l 4 else true
theorem ok_f1 (l : List Tk) : okP [8, 2, 8, 2, 8] l = (decide (l.map Tk.k = [0, 2, 0, 2, 0]) && (rs l 0 && rs l 2 && rs l 4)) := by
  rcases l with _ | ⟨t1, _ | ⟨t2, _ | ⟨t3, _ | ⟨t4, _ | ⟨t5, _ | ⟨t6, l⟩⟩⟩⟩⟩⟩ <;> simp [okP, tkOk, rs, tg]
  rw [Bool.eq_iff_iff]; simp; grind
theorem ok_f2 (l : List Tk) : okP [8, 2, 8, 2, 9] l = (decide (l.map Tk.k = [0, 2, 0, 2, 1] ∨ l.map Tk.k = [0, 2, 0, 2, 0]) && (rs l 0 && rs l 2)) := by
  rcases l with _ | ⟨t1, _ | ⟨t2, _ | ⟨t3, _ | ⟨t4, _ | ⟨t5, _ | ⟨t6, l⟩⟩⟩⟩⟩⟩ <;> simp [okP, tkOk, rs, tg]
  rw [Bool.eq_iff_iff]; simp; grind
theorem ok_f3 (l : List Tk) : okP [8, 2, 9] l = (decide (l.map Tk.k = [0, 2, 1] ∨ l.map Tk.k = [0, 2, 0]) && rs l 0) := by
  rcases l with _ | ⟨t1, _ | ⟨t2, _ | ⟨t3, _ | ⟨t4, l⟩⟩⟩⟩ <;> simp [okP, tkOk, rs, tg]
  rw [Bool.eq_iff_iff]; simp; grind
theorem ok_f4 (l : List Tk) : okP [8, 2, 9, 4, 8, 5] l = (decide (l.map Tk.k = [0, 2, 1, 4, 0, 5] ∨ l.map Tk.k = [0, 2, 0, 4, 0, 5]) && (rs l 0 && rs l 4)) := by
  rcases l with _ | ⟨t1, _ | ⟨t2, _ | ⟨t3, _ | ⟨t4, _ | ⟨t5, _ | ⟨t6, _ | ⟨t7, l⟩⟩⟩⟩⟩⟩⟩ <;> simp [okP, tkOk, rs, tg]
  rw [Bool.eq_iff_iff]; simp; grind
theorem ok_f5 (l : List Tk) : okP [9] l = decide (l.map Tk.k = [1] ∨ l.map Tk.k = [0]) := by
  rcases l with _ | ⟨t1, _ | ⟨t2, l⟩⟩ <;> simp [okP, tkOk]
  rw [Bool.eq_iff_iff]; simp; grind
theorem ok_f (f : Nat) (l : List Tk) : okP (patI f) l = (decide (l.map Tk.k = kI f 1 ∨ l.map Tk.k = kI f 0) && rI f l) := by
  unfold patI kI rI
  by_cases h1 : f = 1
  · simp only [h1, if_true]; rw [ok_f1]; simp
  by_cases h2 : f = 2
  · simp only [h2, if_true]; rw [if_neg (by decide), if_neg (by decide), if_neg (by decide), if_neg (by decide), ok_f2]
  by_cases h3 : f = 3
  · simp only [h3, if_true]; rw [if_neg (by decide), if_neg (by decide), if_neg (by decide), if_neg (by decide), if_neg (by decide), if_neg (by decide), if_neg (by decide), if_neg (by decide), ok_f3]
  by_cases h4 : f = 4
  · subst h4; simp; rw [ok_f4]; simp
  · simp only [h1, h2, h3, h4, if_false]; rw [ok_f5]; simp
/-- What an item does. -/
def effS (ln : Nat) (x : It) (S : St) : St :=
  if x.kind = 1 then { S with names := S.names ++ [(x.name, 0, S.pcs.length)] }
  else if x.kind = 2 then addP (if x.name = [] then pcI ln x.x else pcN ln x.x x.name (if 25 ≤ x.x.op ∧ x.x.op ≤ 29 then 3 else 0)) S
  else if x.kind = 3 then
    if x.name = [] then addP (pcI ln ⟨16, x.x.a, x.x.a, 0, (u32N x.n % 65536 : Nat)⟩) (addP (pcI ln ⟨19, x.x.a, 0, 0, (u32N x.n / 65536 : Nat)⟩) S)
    else addP (pcN ln ⟨16, x.x.a, x.x.a, 0, 0⟩ x.name 2) (addP (pcN ln ⟨19, x.x.a, 0, 0, 0⟩ x.name 1) S)
  else if x.kind = 4 then addP ⟨ln, ⟨0, 0, 0, 0, 0⟩, true, u32N x.n, false, [], 0⟩ S
  else if x.kind = 5 then { S with names := S.names ++ [(x.name, 1, S.data.length)], data := S.data ++ x.s }
  else if x.kind = 6 then { S with names := S.names ++ [(x.name, 1, up S.data.length 4)], data := S.data ++ List.replicate (up S.data.length 4 - S.data.length) 0 ++ putB (u32N x.n) 4 }
  else if x.kind = 7 then { S with names := S.names ++ [(x.name, 2, S.rooms.length)], rooms := S.rooms ++ [x.n.toNat] }
  else S
def effI (ln : Nat) (x : It) (S : St) : Except Nat St :=
  if x.e ≠ 0 then .error x.e else if x.gives = true ∧ (lookN x.name S.names).isSome = true then .error 8 else .ok (effS ln x S)
theorem eff_bad (ln e : Nat) (S : St) (h : e ≠ 0) : effI ln (bad e) S = .error e := if_pos h
theorem eff_name {ln : Nat} {x : It} {S : St} {o a : Nat} {F : St → Except Nat St} (he : x.e = 0) (hg : x.gives = true) (hF : F { S with names := S.names ++ [(x.name, o, a)] } = .ok (effS ln x S)) : (nameP x.name o a S >>= F) = effI ln x S := by
  unfold nameP
  by_cases h : (lookN x.name S.names).isSome = true
  · rw [if_pos h]; unfold effI; rw [if_neg (by simp [he]), if_pos ⟨hg, h⟩]; rfl
  · rw [if_neg h]; unfold effI; rw [if_neg (by simp [he]), if_neg (fun g => h g.2)]
    exact hF
theorem eff_no {ln : Nat} {x : It} {S : St} (he : x.e = 0) (hg : x.gives = false) : effI ln x S = .ok (effS ln x S) := by
  unfold effI
  rw [if_neg (by simp [he]), if_neg (by simp [hg])]
theorem kinds_cons {d : Dt} {b : List Dt} {l : List Tk} (hd : d.k = 119) (h : TksR l b) (p : List Nat) (hp : ∀ q ∈ p, q < 7) : dk (d :: b) = 119 :: p.map kd ↔ l.map Tk.k = p := by
  rw [← TksR.dk_iff h p hp]
  show d.k :: dk b = _ ↔ _
  rw [hd]
  simp
theorem dg_succ (d : Dt) (b : List Dt) (i : Nat) : dg (d :: b) (i + 1) = dg b i := rfl
/-- A number or a name in an instruction. -/
theorem fin_item (ln op : Nat) (S : St) (x : Ins) {t : Tk} {d : Dt} (h : TkR t d) (hk : t.k = 0 ∨ t.k = 1) (hx : x.op = op) :
    finI ln op S (x, t) = effI ln (if d.k = 119 then ⟨2, d.s, x, 0, [], 0⟩ else if d.big = true ∨ d.n < -2147483648 ∨ 2147483647 < d.n then bad 2 else if encE { x with imm := d.n } ≠ 0 then bad (encE { x with imm := d.n }) else ⟨2, [], { x with imm := d.n }, 0, [], 0⟩) S := by
  unfold finI
  rcases hk with hk | hk
  · have hd : d.k = 119 := by rw [h.k, hk]; rfl
    have hs := h.w hk
    rw [if_pos hk, if_pos hd, eff_no rfl rfl]
    unfold effS
    simp only [if_true]
    rw [if_neg (c := d.s = []) (by rw [← h.s]; exact hs), h.s, hx]
    rfl
  · have hd : ¬ d.k = 119 := by rw [h.k, hk]; decide
    rw [if_neg (by simp [hk]), if_neg hd]
    unfold fitP inP
    simp only
    by_cases hr : d.big = true ∨ d.n < -2147483648 ∨ 2147483647 < d.n
    · have : t.n < -2147483648 ∨ 2147483647 < t.n := by
        cases hb : d.big with
        | true => have := h.b hb; omega
        | false => have := h.n hb; rw [hb] at hr; simp at hr; omega
      rw [if_pos this, if_pos hr, eff_bad _ _ _ (by decide)]
      rfl
    · have hb : d.big = false := by cases hb : d.big with
        | true => exact absurd (.inl hb) hr
        | false => rfl
      have hn := h.n hb
      rw [if_neg (by omega), if_neg hr, hn]
      show ((if encE _ = 0 then Except.ok d.n else Except.error _) >>= _) = _
      by_cases he : encE { x with imm := d.n } = 0
      · rw [if_pos he, if_neg (by simp [he]), eff_no rfl rfl]
        unfold effS
        simp only [if_true]
        rw [if_neg (by decide)]
        rfl
      · rw [if_neg he, if_pos he, eff_bad _ _ _ he]
        rfl
theorem kI_map (f k : Nat) : shapeD f (kd k) = 119 :: (kI f k).map kd := by
  unfold shapeD kI
  (repeat' split) <;> rfl
theorem kI_lt (f k : Nat) (hk : k < 7) : ∀ q ∈ kI f k, q < 7 := by
  unfold kI
  (repeat' split) <;> (intro q hq; simp at hq; omega)
theorem enc_one (op a b c : Nat) (h : formN op = 1) (ha : ¬ 15 < a) (hb : ¬ 15 < b) (hc : ¬ 15 < c) : encE ⟨op, a, b, c, 0⟩ = 0 := by
  have h1 : cls op = 1 := by
    unfold formN at h
    unfold cls
    split at h
    · rw [if_neg (by omega), if_pos (by omega)]
    · (repeat' split at h) <;> omega
  unfold encE
  simp only [h1]
  rw [if_neg (by decide), if_neg (by omega)]
  simp [over]
theorem ins_item (ln op : Nat) (S : St) {l : List Tk} {b : List Dt} {d : Dt} (hd : d.k = 119) (h : TksR l b) (h1 : 1 ≤ op) (h2 : op ≤ 31) : insP ln op l S = effI ln (insD (d :: b) op) S := by
  rw [insP_eq ln op l S h1 h2, ok_f]
  have hf : formN op = 1 ∨ formN op = 2 ∨ formN op = 3 ∨ formN op = 4 ∨ formN op = 5 := by unfold formN; (repeat' split) <;> omega
  have k110 := kinds_cons hd h (kI (formN op) 1) (kI_lt _ _ (by decide))
  have k119 := kinds_cons hd h (kI (formN op) 0) (kI_lt _ _ (by decide))
  rw [← kI_map] at k110 k119
  have e1 : kd 1 = 110 := rfl
  have e0 : kd 0 = 119 := rfl
  rw [e1] at k110
  rw [e0] at k119
  unfold insD
  by_cases hk : l.map Tk.k = kI (formN op) 1 ∨ l.map Tk.k = kI (formN op) 0
  rotate_left
  · rw [if_neg (by simp [hk]), if_pos ⟨fun e => hk (.inl (k110.1 e)), fun e => hk (.inr (k119.1 e))⟩, eff_bad _ _ _ (by decide)]
  rw [if_neg (c := dk (d :: b) ≠ _ ∧ _) (fun e => by
    rcases hk with hk | hk
    · exact e.1 (k110.2 hk)
    · exact e.2 (k119.2 hk))]
  clear k110 k119
  rcases hf with f | f | f | f | f <;> rw [f] at hk ⊢
  · have hk' : l.map Tk.k = [0, 2, 0, 2, 0] := by simpa [kI] using hk
    have hlen : l.length = 5 := by have := congrArg List.length hk'; simpa using this
    rcases l with _ | ⟨t1, _ | ⟨t2, _ | ⟨t3, _ | ⟨t4, _ | ⟨t5, _ | ⟨t6, l⟩⟩⟩⟩⟩⟩ <;> simp at hlen
    simp only [List.map_cons, List.map_nil, List.cons.injEq, and_true] at hk'
    have r1 := h.at 0 (by simp)
    have r3 := h.at 2 (by simp)
    have r5 := h.at 4 (by simp)
    have g1 : regA (d :: b) 1 = regD (dg b 0) := rfl
    have g2 : regB (d :: b) 1 = regD (dg b 2) := rfl
    have g3 : regC (d :: b) 1 = regD (dg b 4) := rfl
    rw [g1, g2, g3]
    have e : rI 1 [t1, t2, t3, t4, t5] = ((regN t1.s).isSome && (regN t3.s).isSome && (regN t5.s).isSome) := rfl
    rw [e]
    by_cases s1 : (regN t1.s).isSome = true
    rotate_left
    · rw [if_neg (by simp [s1]), if_pos (.inl (reg_not r1 hk'.1 s1)), eff_bad _ _ _ (by decide)]
    by_cases s3 : (regN t3.s).isSome = true
    rotate_left
    · rw [if_neg (by simp [s3]), if_pos (.inr (.inl (reg_not r3 hk'.2.2.1 s3))), eff_bad _ _ _ (by decide)]
    by_cases s5 : (regN t5.s).isSome = true
    rotate_left
    · rw [if_neg (by simp [s5]), if_pos (.inr (.inr (reg_not r5 hk'.2.2.2.2 s5))), eff_bad _ _ _ (by decide)]
    have q1 := reg_is r1 hk'.1 s1
    have q3 := reg_is r3 hk'.2.2.1 s3
    have q5 := reg_is r5 hk'.2.2.2.2 s5
    rw [if_pos (by rw [s1, s3, s5]; simp; exact hk), if_neg (by omega), if_pos rfl, q1.1, q3.1, q5.1, eff_no rfl rfl]
    have he := enc_one op _ _ _ f q1.2 q3.2 q5.2
    rw [q1.1, q3.1, q5.1] at he
    show (fitP _ 0 >>= _) = _
    unfold fitP inP
    rw [if_neg (by decide)]
    show ((if encE ⟨op, (regN t1.s).getD 0, (regN t3.s).getD 0, (regN t5.s).getD 0, 0⟩ = 0 then Except.ok (0 : Int) else Except.error _) >>= _) = _
    rw [if_pos (show encE ⟨op, (regN t1.s).getD 0, (regN t3.s).getD 0, (regN t5.s).getD 0, 0⟩ = 0 from he)]
    rfl
  · have hk' : l.map Tk.k = [0, 2, 0, 2, 1] ∨ l.map Tk.k = [0, 2, 0, 2, 0] := by simpa [kI] using hk
    have hlen : l.length = 5 := by rcases hk' with e | e <;> (have := congrArg List.length e; simpa using this)
    rcases l with _ | ⟨t1, _ | ⟨t2, _ | ⟨t3, _ | ⟨t4, _ | ⟨t5, _ | ⟨t6, l⟩⟩⟩⟩⟩⟩ <;> simp at hlen
    simp only [List.map_cons, List.map_nil, List.cons.injEq, and_true] at hk'
    have r1 := h.at 0 (by simp)
    have r3 := h.at 2 (by simp)
    have r5 := h.at 4 (by simp)
    have g1 : regA (d :: b) 2 = regD (dg b 0) := rfl
    have g2 : regB (d :: b) 2 = regD (dg b 2) := rfl
    have g3 : regC (d :: b) 2 = 0 := rfl
    have g4 : dg (d :: b) (atD 2) = dg b 4 := rfl
    rw [g1, g2, g3, g4]
    have e : rI 2 [t1, t2, t3, t4, t5] = ((regN t1.s).isSome && (regN t3.s).isSome) := rfl
    rw [e]
    by_cases s1 : (regN t1.s).isSome = true
    rotate_left
    · rw [if_neg (by simp [s1]), if_pos (.inl (reg_not r1 (by rcases hk' with q | q <;> exact q.1) s1)), eff_bad _ _ _ (by decide)]
    by_cases s3 : (regN t3.s).isSome = true
    rotate_left
    · rw [if_neg (by simp [s3]), if_pos (.inr (.inl (reg_not r3 (by rcases hk' with q | q <;> exact q.2.2.1) s3))), eff_bad _ _ _ (by decide)]
    have q1 := reg_is r1 (by rcases hk' with q | q <;> exact q.1) s1
    have q3 := reg_is r3 (by rcases hk' with q | q <;> exact q.2.2.1) s3
    rw [if_pos (by rw [s1, s3]; simp; simpa using hk), if_neg (by omega), if_neg (by decide), q1.1, q3.1]
    exact fin_item ln op S _ r5 (by rcases hk' with q | q <;> simp [q, tg]) rfl
  · have hk' : l.map Tk.k = [0, 2, 1] ∨ l.map Tk.k = [0, 2, 0] := by simpa [kI] using hk
    have hlen : l.length = 3 := by rcases hk' with e | e <;> (have := congrArg List.length e; simpa using this)
    rcases l with _ | ⟨t1, _ | ⟨t2, _ | ⟨t3, _ | ⟨t4, l⟩⟩⟩⟩ <;> simp at hlen
    simp only [List.map_cons, List.map_nil, List.cons.injEq, and_true] at hk'
    have r1 := h.at 0 (by simp)
    have r3 := h.at 2 (by simp)
    have g1 : regA (d :: b) 3 = regD (dg b 0) := rfl
    have g2 : regB (d :: b) 3 = 0 := rfl
    have g3 : regC (d :: b) 3 = 0 := rfl
    have g4 : dg (d :: b) (atD 3) = dg b 2 := rfl
    rw [g1, g2, g3, g4]
    have e : rI 3 [t1, t2, t3] = (regN t1.s).isSome := rfl
    rw [e]
    by_cases s1 : (regN t1.s).isSome = true
    rotate_left
    · rw [if_neg (by simp [s1]), if_pos (.inl (reg_not r1 (by rcases hk' with q | q <;> exact q.1) s1)), eff_bad _ _ _ (by decide)]
    have q1 := reg_is r1 (by rcases hk' with q | q <;> exact q.1) s1
    rw [if_pos (by rw [s1]; simp; simpa using hk), if_neg (by omega), if_neg (by decide), q1.1]
    exact fin_item ln op S _ r3 (by rcases hk' with q | q <;> simp [q, tg]) rfl
  · have hk' : l.map Tk.k = [0, 2, 1, 4, 0, 5] ∨ l.map Tk.k = [0, 2, 0, 4, 0, 5] := by simpa [kI] using hk
    have hlen : l.length = 6 := by rcases hk' with e | e <;> (have := congrArg List.length e; simpa using this)
    rcases l with _ | ⟨t1, _ | ⟨t2, _ | ⟨t3, _ | ⟨t4, _ | ⟨t5, _ | ⟨t6, _ | ⟨t7, l⟩⟩⟩⟩⟩⟩⟩ <;> simp at hlen
    simp only [List.map_cons, List.map_nil, List.cons.injEq, and_true] at hk'
    have r1 := h.at 0 (by simp)
    have r3 := h.at 2 (by simp)
    have r5 := h.at 4 (by simp)
    have g1 : regA (d :: b) 4 = regD (dg b 0) := rfl
    have g2 : regB (d :: b) 4 = regD (dg b 4) := rfl
    have g3 : regC (d :: b) 4 = 0 := rfl
    have g4 : dg (d :: b) (atD 4) = dg b 2 := rfl
    rw [g1, g2, g3, g4]
    have e : rI 4 [t1, t2, t3, t4, t5, t6] = ((regN t1.s).isSome && (regN t5.s).isSome) := rfl
    rw [e]
    by_cases s1 : (regN t1.s).isSome = true
    rotate_left
    · rw [if_neg (by simp [s1]), if_pos (.inl (reg_not r1 (by rcases hk' with q | q <;> exact q.1) s1)), eff_bad _ _ _ (by decide)]
    by_cases s5 : (regN t5.s).isSome = true
    rotate_left
    · rw [if_neg (by simp [s5]), if_pos (.inr (.inl (reg_not r5 (by rcases hk' with q | q <;> exact q.2.2.2.2.1) s5))), eff_bad _ _ _ (by decide)]
    have q1 := reg_is r1 (by rcases hk' with q | q <;> exact q.1) s1
    have q5 := reg_is r5 (by rcases hk' with q | q <;> exact q.2.2.2.2.1) s5
    rw [if_pos (by rw [s1, s5]; simp; simpa using hk), if_neg (by omega), if_neg (by decide), q1.1, q5.1]
    exact fin_item ln op S _ r3 (by rcases hk' with q | q <;> simp [q, tg]) rfl
  · have hk' : l.map Tk.k = [1] ∨ l.map Tk.k = [0] := by simpa [kI] using hk
    have hlen : l.length = 1 := by rcases hk' with e | e <;> (have := congrArg List.length e; simpa using this)
    rcases l with _ | ⟨t1, _ | ⟨t2, l⟩⟩ <;> simp at hlen
    simp only [List.map_cons, List.map_nil, List.cons.injEq, and_true] at hk'
    have r1 := h.at 0 (by simp)
    have g1 : regA (d :: b) 5 = 0 := rfl
    have g2 : regB (d :: b) 5 = 0 := rfl
    have g3 : regC (d :: b) 5 = 0 := rfl
    have g4 : dg (d :: b) (atD 5) = dg b 0 := rfl
    rw [g1, g2, g3, g4]
    have e : rI 5 [t1] = true := rfl
    rw [e, if_pos (by simp; simpa using hk), if_neg (by omega), if_neg (by decide)]
    exact fin_item ln op S _ r1 (by rcases hk' with q | q <;> simp [q, tg]) rfl
end Go.Proofs.YtmmnkoeajdeldaaGreatDoor.Pl
namespace Go.Proofs.YtmmnkoeajdeldaaGreatDoor.Pl
open Go.RowKit
open Go.Lib (itoa decDigits)
set_option linter.unusedVariables false
set_option linter.unusedSimpArgs false
/-- A number's bounds, of the document's token. -/
theorem in_fits {t : Tk} {d : Dt} (h : TkR t d) (lo hi : Int) (hlo : -2147483648 ≤ lo) (hhi : hi ≤ 4294967295) : (t.n < lo ∨ hi < t.n) ↔ (d.big = true ∨ d.n < lo ∨ hi < d.n) := by
  cases hb : d.big with
  | true => have := h.b hb; simp; omega
  | false => have := h.n hb; simp [this]
theorem n_of {t : Tk} {d : Dt} {lo hi : Int} (h : TkR t d) (hb : ¬ (d.big = true ∨ d.n < lo ∨ hi < d.n)) : t.n = d.n := h.n (by
  cases hb2 : d.big with
  | true => exact absurd (.inl hb2) hb
  | false => rfl)
theorem fits_iff (d : Dt) : fits32 d = false ↔ (d.big = true ∨ d.n < -2147483648 ∨ 4294967295 < d.n) := by
  unfold fits32
  cases d.big <;> simp
  omega
theorem hd_s (d : Dt) (b : List Dt) : dg (d :: b) 0 = d := rfl
theorem li_item (ln : Nat) (S : St) {l : List Tk} {b : List Dt} {d : Dt} (hd : d.k = 119) (hs : d.s = wLi) (h : TksR l b) : liP ln l S = effI ln (pairD (d :: b)) S := by
  rw [liP_eq, ok_li l 1 (by decide)]
  have hk := kinds_cons hd h [0, 2, 1] (by decide)
  have e1 : (119 :: [0, 2, 1].map kd) = [119, 119, 44, 110] := rfl
  rw [e1] at hk
  have hla : ¬ (dg (d :: b) 0).s = wLa := by rw [hd_s, hs]; decide
  unfold pairD
  by_cases g : l.map Tk.k = [0, 2, 1]
  rotate_left
  · rw [if_neg (by simp [g]), if_pos (.inl ⟨hs, fun e => g (hk.1 e)⟩), eff_bad _ _ _ (by decide)]
  have hkk := hk.2 g
  clear hk
  have hlen : l.length = 3 := by have := congrArg List.length g; simpa using this
  rcases l with _ | ⟨t1, _ | ⟨t2, _ | ⟨t3, _ | ⟨t4, l⟩⟩⟩⟩ <;> simp at hlen
  have g0 := g
  simp only [List.map_cons, List.map_nil, List.cons.injEq, and_true] at g
  have r1 := h.at 0 (by simp)
  have r3 := h.at 2 (by simp)
  have e : rs [t1, t2, t3] 0 = (regN t1.s).isSome := rfl
  have q1 : dg (d :: b) 1 = dg b 0 := rfl
  have q3 : dg (d :: b) 3 = dg b 2 := rfl
  rw [e, q1, q3]
  by_cases s1 : (regN t1.s).isSome = true
  rotate_left
  · rw [if_neg (by simp [s1]), if_pos (.inr (.inr (reg_not r1 g.1 s1))), eff_bad _ _ _ (by decide)]
  have w1 := reg_is r1 g.1 s1
  rw [if_pos (by rw [s1, g0]; rfl), if_neg (by
    rintro (h1 | h1 | h1)
    · exact h1.2 hkk
    · exact hla h1.1
    · exact w1.2 h1)]
  have hf := in_fits r3 (-2147483648) 4294967295 (by decide) (by decide)
  have hn := r3.o (by rw [show (tg [t1, t2, t3] 2).k = t3.k from rfl, g.2.2]; decide) (by rw [show (tg [t1, t2, t3] 2).k = t3.k from rfl, g.2.2]; decide)
  unfold inP
  by_cases hr : (tg [t1, t2, t3] 2).n < -2147483648 ∨ 4294967295 < (tg [t1, t2, t3] 2).n
  · rw [if_pos hr, if_pos ⟨hs, (fits_iff _).2 (hf.1 hr)⟩, eff_bad _ _ _ (by decide)]
    rfl
  · have hr2 := fun e => hr (hf.2 e)
    rw [if_neg hr, if_neg (fun e => hr2 ((fits_iff _).1 e.2)), eff_no rfl rfl]
    unfold effS
    simp only [if_true]
    have hnm : (dg b 2).s = [] := by rw [← r3.s]; exact hn
    rw [if_neg (by decide), if_neg (by decide), if_pos hnm, n_of r3 hr2, w1.1]
    rfl
theorem la_item (ln : Nat) (S : St) {l : List Tk} {b : List Dt} {d : Dt} (hd : d.k = 119) (hs : d.s = wLa) (h : TksR l b) : laP ln l S = effI ln (pairD (d :: b)) S := by
  rw [laP_eq, ok_li l 0 (by decide)]
  have hk := kinds_cons hd h [0, 2, 0] (by decide)
  have e1 : (119 :: [0, 2, 0].map kd) = [119, 119, 44, 119] := rfl
  rw [e1] at hk
  have hla : ¬ (dg (d :: b) 0).s = wLi := by rw [hd_s, hs]; decide
  unfold pairD
  by_cases g : l.map Tk.k = [0, 2, 0]
  rotate_left
  · rw [if_neg (by simp [g]), if_pos (.inr (.inl ⟨hs, fun e => g (hk.1 e)⟩)), eff_bad _ _ _ (by decide)]
  have hkk := hk.2 g
  clear hk
  have hlen : l.length = 3 := by have := congrArg List.length g; simpa using this
  rcases l with _ | ⟨t1, _ | ⟨t2, _ | ⟨t3, _ | ⟨t4, l⟩⟩⟩⟩ <;> simp at hlen
  have g0 := g
  simp only [List.map_cons, List.map_nil, List.cons.injEq, and_true] at g
  have r1 := h.at 0 (by simp)
  have r3 := h.at 2 (by simp)
  have e : rs [t1, t2, t3] 0 = (regN t1.s).isSome := rfl
  have q1 : dg (d :: b) 1 = dg b 0 := rfl
  have q3 : dg (d :: b) 3 = dg b 2 := rfl
  rw [e, q1, q3]
  by_cases s1 : (regN t1.s).isSome = true
  rotate_left
  · rw [if_neg (by simp [s1]), if_pos (.inr (.inr (reg_not r1 g.1 s1))), eff_bad _ _ _ (by decide)]
  have w1 := reg_is r1 g.1 s1
  rw [if_pos (by rw [s1, g0]; rfl), if_neg (by
    rintro (h1 | h1 | h1)
    · exact hla h1.1
    · exact h1.2 hkk
    · exact w1.2 h1)]
  have hn := r3.w (show t3.k = 0 from g.2.2)
  rw [if_neg (fun e => hla e.1), eff_no rfl rfl]
  unfold effS
  simp only [if_true]
  have hnm : ¬ (dg b 2).s = [] := by rw [← r3.s]; exact hn
  rw [if_neg (by decide), if_neg (by decide), if_neg hnm, ← r3.s, w1.1]
  rfl
/-- What the document makes of a line that begins with raw. -/
def rawD (l : List Dt) : It :=
  if dk l ≠ [119, 110] then bad 3
  else if (dg l 1).big = true ∨ (dg l 1).n < 0 ∨ 4294967295 < (dg l 1).n then bad 2
  else ⟨4, [], Ins.nil, (dg l 1).n, [], 0⟩
theorem raw_item (ln : Nat) (S : St) {l : List Tk} {b : List Dt} {d : Dt} (hd : d.k = 119) (h : TksR l b) : rawP ln l S = effI ln (rawD (d :: b)) S := by
  rw [rawP_eq, ok_1 l 1 (by decide)]
  have hk := kinds_cons hd h [1] (by decide)
  have e1 : (119 :: [1].map kd) = [119, 110] := rfl
  rw [e1] at hk
  unfold rawD
  by_cases g : l.map Tk.k = [1]
  rotate_left
  · rw [if_neg (by simp [g]), if_pos (fun e => g (hk.1 e)), eff_bad _ _ _ (by decide)]
  have hkk := hk.2 g
  have hlen : l.length = 1 := by have := congrArg List.length g; simpa using this
  rcases l with _ | ⟨t1, _ | ⟨t2, l⟩⟩ <;> simp at hlen
  have r1 := h.at 0 (by simp)
  have q1 : dg (d :: b) 1 = dg b 0 := rfl
  rw [if_pos (by simpa using g), if_neg (fun e => e hkk), q1]
  have hf := in_fits r1 0 4294967295 (by decide) (by decide)
  unfold inP
  by_cases hr : (tg [t1] 0).n < 0 ∨ 4294967295 < (tg [t1] 0).n
  · rw [if_pos hr, if_pos (hf.1 hr), eff_bad _ _ _ (by decide)]
    rfl
  · have hr2 := fun e => hr (hf.2 e)
    rw [if_neg hr, if_neg hr2, eff_no rfl rfl, n_of r1 hr2]
    rfl
def textD (l : List Dt) : It := if dk l ≠ [119, 119, 113] then bad 3 else ⟨5, (dg l 1).s, Ins.nil, 0, (dg l 2).s, 0⟩
theorem text_item (ln : Nat) (S : St) {l : List Tk} {b : List Dt} {d : Dt} (hd : d.k = 119) (h : TksR l b) : textP l S = effI ln (textD (d :: b)) S := by
  rw [textP_eq, ok_2 l 0 6 (by decide) (by decide)]
  have hk := kinds_cons hd h [0, 6] (by decide)
  have e1 : (119 :: [0, 6].map kd) = [119, 119, 113] := rfl
  rw [e1] at hk
  unfold textD
  by_cases g : l.map Tk.k = [0, 6]
  rotate_left
  · rw [if_neg (by simp [g]), if_pos (fun e => g (hk.1 e)), eff_bad _ _ _ (by decide)]
  have hkk := hk.2 g
  have hlen : l.length = 2 := by have := congrArg List.length g; simpa using this
  rcases l with _ | ⟨t1, _ | ⟨t2, _ | ⟨t3, l⟩⟩⟩ <;> simp at hlen
  have r1 := h.at 0 (by simp)
  have r2 := h.at 1 (by simp)
  have q1 : dg (d :: b) 1 = dg b 0 := rfl
  have q2 : dg (d :: b) 2 = dg b 1 := rfl
  rw [if_pos (by simpa using g), if_neg (fun e => e hkk), q1, q2, ← r1.s, ← r2.s]
  exact eff_name (x := ⟨5, (tg [t1, t2] 0).s, Ins.nil, 0, (tg [t1, t2] 1).s, 0⟩) rfl rfl rfl
def wordD (l : List Dt) : It :=
  if dk l ≠ [119, 119, 110] then bad 3
  else if fits32 (dg l 2) = false then bad 2
  else ⟨6, (dg l 1).s, Ins.nil, (dg l 2).n, [], 0⟩
theorem word_item (ln : Nat) (S : St) {l : List Tk} {b : List Dt} {d : Dt} (hd : d.k = 119) (h : TksR l b) : wordP4 l S = effI ln (wordD (d :: b)) S := by
  rw [word_eq, ok_2 l 0 1 (by decide) (by decide)]
  have hk := kinds_cons hd h [0, 1] (by decide)
  have e1 : (119 :: [0, 1].map kd) = [119, 119, 110] := rfl
  rw [e1] at hk
  unfold wordD
  by_cases g : l.map Tk.k = [0, 1]
  rotate_left
  · rw [if_neg (by simp [g]), if_pos (fun e => g (hk.1 e)), eff_bad _ _ _ (by decide)]
  have hkk := hk.2 g
  have hlen : l.length = 2 := by have := congrArg List.length g; simpa using this
  rcases l with _ | ⟨t1, _ | ⟨t2, _ | ⟨t3, l⟩⟩⟩ <;> simp at hlen
  have r1 := h.at 0 (by simp)
  have r2 := h.at 1 (by simp)
  have q1 : dg (d :: b) 1 = dg b 0 := rfl
  have q2 : dg (d :: b) 2 = dg b 1 := rfl
  rw [if_pos (by simpa using g), if_neg (fun e => e hkk), q1, q2, ← r1.s]
  have hf := in_fits r2 (-2147483648) 4294967295 (by decide) (by decide)
  unfold inP
  by_cases hr : (tg [t1, t2] 1).n < -2147483648 ∨ 4294967295 < (tg [t1, t2] 1).n
  · rw [if_pos hr, if_pos ((fits_iff _).2 (hf.1 hr)), eff_bad _ _ _ (by decide)]
    rfl
  · have hr2 := fun e => hr (hf.2 e)
    rw [if_neg hr, if_neg (fun e => hr2 ((fits_iff _).1 e)), ← n_of r2 hr2]
    exact eff_name (x := ⟨6, (tg [t1, t2] 0).s, Ins.nil, (tg [t1, t2] 1).n, [], 0⟩) rfl rfl rfl
def roomD (l : List Dt) : It :=
  if dk l ≠ [119, 119, 110] then bad 3
  else if (dg l 2).big = true ∨ (dg l 2).n < 0 ∨ 65536 < (dg l 2).n then bad 2
  else ⟨7, (dg l 1).s, Ins.nil, (dg l 2).n, [], 0⟩
theorem room_item (ln : Nat) (S : St) {l : List Tk} {b : List Dt} {d : Dt} (hd : d.k = 119) (h : TksR l b) : roomP l S = effI ln (roomD (d :: b)) S := by
  rw [room_eq, ok_2 l 0 1 (by decide) (by decide)]
  have hk := kinds_cons hd h [0, 1] (by decide)
  have e1 : (119 :: [0, 1].map kd) = [119, 119, 110] := rfl
  rw [e1] at hk
  unfold roomD
  by_cases g : l.map Tk.k = [0, 1]
  rotate_left
  · rw [if_neg (by simp [g]), if_pos (fun e => g (hk.1 e)), eff_bad _ _ _ (by decide)]
  have hkk := hk.2 g
  have hlen : l.length = 2 := by have := congrArg List.length g; simpa using this
  rcases l with _ | ⟨t1, _ | ⟨t2, _ | ⟨t3, l⟩⟩⟩ <;> simp at hlen
  have r1 := h.at 0 (by simp)
  have r2 := h.at 1 (by simp)
  have q1 : dg (d :: b) 1 = dg b 0 := rfl
  have q2 : dg (d :: b) 2 = dg b 1 := rfl
  rw [if_pos (by simpa using g), if_neg (fun e => e hkk), q1, q2, ← r1.s]
  have hf := in_fits r2 0 65536 (by decide) (by decide)
  unfold inP
  by_cases hr : (tg [t1, t2] 1).n < 0 ∨ 65536 < (tg [t1, t2] 1).n
  · rw [if_pos hr, if_pos (hf.1 hr), eff_bad _ _ _ (by decide)]
    rfl
  · have hr2 := fun e => hr (hf.2 e)
    rw [if_neg hr, if_neg hr2, ← n_of r2 hr2]
    exact eff_name (x := ⟨7, (tg [t1, t2] 0).s, Ins.nil, (tg [t1, t2] 1).n, [], 0⟩) rfl rfl rfl
theorem opF_rng {s : List UInt8} : ∀ {l : List (List UInt8)} {i op : Nat}, opF s l i = some op → i ≤ op ∧ op < i + l.length := opF_le
theorem line_item (ln : Nat) (S : St) {t : Tk} {l : List Tk} {d : Dt} {b : List Dt} (h : TksR (t :: l) (d :: b)) (h0 : t.k = 0) (hn : ¬ dk (d :: b) = [119, 58]) : lineP ln (t :: l) S = effI ln (itemD (d :: b)) S := by
  have hd : d.k = 119 := by rw [h.1.k, h0]; rfl
  have hs : t.s = d.s := h.1.s
  have hl : TksR l b := h.2
  have e : lineP ln (t :: l) S = (if t.s = wLi then liP ln l S else if t.s = wLa then laP ln l S else if t.s = wRaw then rawP ln l S else if t.s = wText then textP l S else if t.s = wWord then wordP4 l S else if t.s = wRoom then roomP l S else match opN t.s with | none => .error 3 | some op => insP ln op l S) := by
    unfold lineP
    rw [wantP_yes h0]
    rfl
  rw [e, hs]
  have e2 : itemD (d :: b) = (if d.s = wLi ∨ d.s = wLa then pairD (d :: b) else if d.s = wRaw then rawD (d :: b) else if d.s = wText then textD (d :: b) else if d.s = wWord then wordD (d :: b) else if d.s = wRoom then roomD (d :: b) else match opN d.s with | none => bad 3 | some op => insD (d :: b) op) := by
    unfold itemD
    rw [if_neg (by simp), if_neg (by rw [hd_s]; simp [hd]), if_neg hn]
    rfl
  rw [e2]
  by_cases g1 : d.s = wLi
  · rw [if_pos g1, if_pos (.inl g1)]; exact li_item ln S hd g1 hl
  by_cases g2 : d.s = wLa
  · rw [if_neg g1, if_pos g2, if_pos (.inr g2)]; exact la_item ln S hd g2 hl
  rw [if_neg g1, if_neg g2, if_neg (c := d.s = wLi ∨ d.s = wLa) (fun e => e.elim g1 g2)]
  by_cases g3 : d.s = wRaw
  · rw [if_pos g3, if_pos g3]; exact raw_item ln S hd hl
  rw [if_neg g3, if_neg g3]
  by_cases g4 : d.s = wText
  · rw [if_pos g4, if_pos g4]; exact text_item ln S hd hl
  rw [if_neg g4, if_neg g4]
  by_cases g5 : d.s = wWord
  · rw [if_pos g5, if_pos g5]; exact word_item ln S hd hl
  rw [if_neg g5, if_neg g5]
  by_cases g6 : d.s = wRoom
  · rw [if_pos g6, if_pos g6]; exact room_item ln S hd hl
  rw [if_neg g6, if_neg g6]
  cases ho : opN d.s with
  | none => exact (eff_bad _ _ _ (by decide)).symm
  | some op =>
    have hr := opF_rng ho
    have e31 : opNs.length = 31 := rfl
    exact ins_item ln op S hd hl (by omega) (by omega)
/-- A line is taken in as the document's item does. -/
theorem take_item (ln : Nat) (S : St) {a : List Tk} {b : List Dt} (h : TksR a b) : takeP ln a S = effI ln (itemD b) S := by
  rcases a with _ | ⟨t, l⟩
  · rcases b with _ | ⟨d, b⟩
    · rfl
    · exact h.elim
  rcases b with _ | ⟨d, b⟩
  · exact h.elim
  by_cases h0 : t.k = 0
  rotate_left
  · have hd : ¬ d.k = 119 := by rw [h.1.k]; exact fun e => h0 (kd_inj h.1.lt (by decide) e)
    have e1 : lineP ln (t :: l) S = .error 3 := by
      unfold lineP
      rw [wantP_no h0]
      rfl
    have e2 : takeP ln (t :: l) S = .error 3 := by
      unfold takeP
      split
      · rename_i e; cases e
      · rename_i x y e
        injection e with e3 e4
        subst e3 e4
        rw [if_neg (fun g => h0 g.1), e1]
      · exact e1
    rw [e2]
    unfold itemD
    rw [if_neg (by simp), if_pos (by rw [hd_s]; exact hd), eff_bad _ _ _ (by decide)]
  · have hd : d.k = 119 := by rw [h.1.k, h0]; rfl
    have hk := kinds_cons hd h.2 [3] (by decide)
    have e1 : (119 :: [3].map kd) = [119, 58] := rfl
    rw [e1] at hk
    by_cases hn : dk (d :: b) = [119, 58]
    · have g := hk.1 hn
      have hlen : l.length = 1 := by have := congrArg List.length g; simpa using this
      rcases l with _ | ⟨u, _ | ⟨u2, l⟩⟩ <;> simp at hlen
      have hu : u.k = 3 := by simpa using g
      have e3 : takeP ln [t, u] S = nameP t.s 0 S.pcs.length S := if_pos ⟨h0, hu⟩
      have e4 : itemD (d :: b) = ⟨1, d.s, Ins.nil, 0, [], 0⟩ := by
        unfold itemD
        rw [if_neg (by simp), if_neg (by rw [hd_s]; simp [hd]), if_pos hn]
        rfl
      rw [e3, e4, h.1.s]
      have e5 := eff_name (ln := ln) (x := ⟨1, d.s, Ins.nil, 0, [], 0⟩) (S := S) (o := 0) (a := S.pcs.length) (F := fun S1 => .ok S1) rfl rfl rfl
      rw [← e5]
      show nameP d.s 0 S.pcs.length S = _
      cases nameP d.s 0 S.pcs.length S <;> rfl
    · rw [← line_item ln S h h0 hn]
      unfold takeP
      split
      · rename_i e; cases e
      · rename_i x y e
        injection e with e3 e4
        subst e3 e4
        rw [if_neg (fun g => hn (hk.2 (by simp [g.2])))]
      · rfl
end Go.Proofs.YtmmnkoeajdeldaaGreatDoor.Pl
namespace Go.Proofs.YtmmnkoeajdeldaaGreatDoor.Pl
open Go.RowKit
open Go.Lib (itoa decDigits)
set_option linter.unusedVariables false
set_option linter.unusedSimpArgs false
/-- What is known of an item. -/
structure ItOk (x : It) : Prop where
  kind : x.kind ≤ 7
  reg : x.kind = 3 → x.x.a < 16
  n0 : x.kind = 7 → 0 ≤ x.n ∧ x.n ≤ 65536
theorem ins_ok (l : List Dt) (op : Nat) : ItOk (insD l op) := by
  unfold insD
  (repeat' split) <;> exact ⟨(by simp [bad]), (by simp [bad]), (by simp [bad])⟩
theorem item_ok (l : List Dt) : ItOk (itemD l) := by
  unfold itemD
  split
  · exact ⟨by simp [It.nil], by simp [It.nil], by simp [It.nil]⟩
  split
  · exact ⟨by simp [bad], by simp [bad], by simp [bad]⟩
  split
  · exact ⟨by simp, by simp, by simp⟩
  split
  · unfold pairD
    split
    · exact ⟨by simp [bad], by simp [bad], by simp [bad]⟩
    · rename_i h
      split
      · exact ⟨by simp [bad], by simp [bad], by simp [bad]⟩
      · refine ⟨by simp, fun _ => ?_, by simp⟩
        simp only
        have : ¬ 15 < regD (dg l 1) := fun e => h (.inr (.inr e))
        omega
  split
  · (repeat' split) <;> exact ⟨by simp [bad], by simp [bad], by simp [bad]⟩
  split
  · (repeat' split) <;> exact ⟨by simp [bad], by simp [bad], by simp [bad]⟩
  split
  · (repeat' split) <;> exact ⟨by simp [bad], by simp [bad], by simp [bad]⟩
  split
  · split
    · exact ⟨by simp [bad], by simp [bad], by simp [bad]⟩
    split
    · exact ⟨by simp [bad], by simp [bad], by simp [bad]⟩
    · rename_i h
      refine ⟨by simp, by simp, fun _ => ?_⟩
      simp only
      have h1 : ¬ (dg l 2).n < 0 := fun e => h (.inr (.inl e))
      have h2 : ¬ 65536 < (dg l 2).n := fun e => h (.inr (.inr e))
      omega
  split
  · exact ⟨by simp [bad], by simp [bad], by simp [bad]⟩
  · exact ins_ok l _
/-- The state behind items, from number i on. -/
def stI : List It → Nat → St → St
  | [], _, S => S
  | x :: r, i, S => stI r (i + 1) (effS (i + 1) x S)
theorem stI_snoc (x : It) : ∀ (l : List It) (i : Nat) (S : St), stI (l ++ [x]) i S = effS (i + l.length + 1) x (stI l i S)
  | [], i, S => rfl
  | y :: r, i, S => by
    show stI (r ++ [x]) (i + 1) _ = _
    rw [stI_snoc x r]
    show _ = effS (i + (r.length + 1) + 1) x (stI r (i + 1) _)
    rw [show i + 1 + r.length + 1 = i + (r.length + 1) + 1 by omega]
/-- What a name stands for: k words, D data, j rooms are ahead. -/
def plI (x : It) (k : Nat) (D : List UInt8) (j : Nat) : Nat × Nat := if x.kind = 1 then (0, k) else if x.kind = 5 then (1, D.length) else if x.kind = 6 then (1, up D.length 4) else (2, j)
def nm1 (x : It) (k : Nat) (D : List UInt8) (j : Nat) : List (List UInt8 × Nat × Nat) := if x.gives = true then [(x.name, plI x k D j)] else []
def pc1 (ln : Nat) (x : It) : List Pc :=
  if x.kind = 2 then [if x.name = [] then pcI ln x.x else pcN ln x.x x.name (if 25 ≤ x.x.op ∧ x.x.op ≤ 29 then 3 else 0)]
  else if x.kind = 3 then
    if x.name = [] then [pcI ln ⟨19, x.x.a, 0, 0, (u32N x.n / 65536 : Nat)⟩, pcI ln ⟨16, x.x.a, x.x.a, 0, (u32N x.n % 65536 : Nat)⟩]
    else [pcN ln ⟨19, x.x.a, 0, 0, 0⟩ x.name 1, pcN ln ⟨16, x.x.a, x.x.a, 0, 0⟩ x.name 2]
  else if x.kind = 4 then [⟨ln, ⟨0, 0, 0, 0, 0⟩, true, u32N x.n, false, [], 0⟩]
  else []
def da1 (x : It) (D : List UInt8) : List UInt8 := (if x.kind = 6 then D ++ List.replicate (up D.length 4 - D.length) 0 else D) ++ (if x.kind = 5 then x.s else if x.kind = 6 then putB (u32N x.n) 4 else [])
def rm1 (x : It) : List Nat := if x.kind = 7 then [x.n.toNat] else []
theorem kind_cases {x : It} (h : ItOk x) : x.kind = 0 ∨ x.kind = 1 ∨ x.kind = 2 ∨ x.kind = 3 ∨ x.kind = 4 ∨ x.kind = 5 ∨ x.kind = 6 ∨ x.kind = 7 := by have := h.kind; omega
theorem effS_eq (ln : Nat) {x : It} (h : ItOk x) (S : St) : effS ln x S = ⟨S.pcs ++ pc1 ln x, da1 x S.data, S.rooms ++ rm1 x, S.names ++ nm1 x S.pcs.length S.data S.rooms.length⟩ := by
  unfold effS nm1 pc1 da1 rm1 plI It.gives
  rcases kind_cases h with e | e | e | e | e | e | e | e <;> simp [e, addP]
  · split <;> simp
theorem pc1_len (ln : Nat) (x : It) : (pc1 ln x).length = wordsOfD x := by
  unfold pc1 wordsOfD
  by_cases h2 : x.kind = 2
  · simp [h2]
  by_cases h3 : x.kind = 3
  · simp [h3]; split <;> rfl
  by_cases h4 : x.kind = 4
  · simp [h4]
  · simp [h2, h3, h4]
def pcsI : Nat → List It → List Pc
  | _, [] => []
  | i, x :: r => pc1 (i + 1) x ++ pcsI (i + 1) r
def dataI : List It → List UInt8 → List UInt8
  | [], D => D
  | x :: r, D => dataI r (da1 x D)
def roomsI : List It → List Nat
  | [] => []
  | x :: r => rm1 x ++ roomsI r
def namesI : List It → Nat → List UInt8 → Nat → List (List UInt8 × Nat × Nat)
  | [], _, _, _ => []
  | x :: r, k, D, j => nm1 x k D j ++ namesI r (k + wordsOfD x) (da1 x D) (j + (rm1 x).length)
theorem stI_eq : ∀ (l : List It) (i : Nat) (S : St), (∀ x ∈ l, ItOk x) → stI l i S = ⟨S.pcs ++ pcsI i l, dataI l S.data, S.rooms ++ roomsI l, S.names ++ namesI l S.pcs.length S.data S.rooms.length⟩
  | [], i, S, _ => by simp [stI, pcsI, dataI, roomsI, namesI]
  | x :: r, i, S, h => by
    show stI r (i + 1) (effS (i + 1) x S) = _
    rw [stI_eq r _ _ fun y hy => h y (List.mem_cons_of_mem _ hy), effS_eq _ (h x (by simp))]
    simp [pcsI, dataI, roomsI, namesI, pc1_len]
theorem lookN_app (s : List UInt8) : ∀ (a b : List (List UInt8 × Nat × Nat)), lookN s (a ++ b) = match lookN s a with | some v => some v | none => lookN s b
  | [], b => rfl
  | (t, v) :: a, b => by
    simp only [List.cons_append, lookN]
    split
    · rfl
    · exact lookN_app s a b
theorem look_names (s : List UInt8) : ∀ (l : List It) (k : Nat) (D : List UInt8) (j : Nat), (lookN s (namesI l k D j)).isSome = l.any (fun y => y.gives && y.name == s)
  | [], _, _, _ => rfl
  | x :: r, k, D, j => by
    have ih := look_names s r (k + wordsOfD x) (da1 x D) (j + (rm1 x).length)
    rw [namesI, lookN_app, List.any_cons]
    unfold nm1
    cases hg : x.gives with
    | false => simpa [lookN] using ih
    | true =>
      simp only [if_true, lookN]
      by_cases e : x.name = s
      · simp [e]
      · simp [e, ih]
theorem twice_iff (x : It) (l : List It) : twice x l = (x.gives && l.any (fun y => y.gives && y.name == x.name)) := by
  unfold twice
  cases x.gives with
  | false => simp
  | true => simp
def UniqI (l : List It) : Prop := l.Pairwise fun a b => ¬ (a.gives = true ∧ b.gives = true ∧ a.name = b.name)
theorem lines_items : ∀ (ls : List (List UInt8)) (i : Nat) (out : List It), out.length = i → (∀ x ∈ out, ItOk x) → UniqI out →
    (linesP i ls (stI out 0 St.nil) = match itemsF i out ls with | .error e => .error e | .ok l => .ok (stI l 0 St.nil)) ∧ ∀ l, itemsF i out ls = .ok l → (∀ x ∈ l, ItOk x) ∧ UniqI l ∧ l.length = i + ls.length
  | [], i, out, hl, ho, hu => ⟨rfl, fun l h => by cases h; exact ⟨ho, hu, by simp [hl]⟩⟩
  | s :: r, i, out, hl, ho, hu => by
    have ht := toks_rel s
    rw [linesP]
    simp only [itemsF]
    cases hT : toks s with
    | none =>
      rw [hT] at ht
      simp only at ht
      rw [ht]
      exact ⟨rfl, fun l h => by cases h⟩
    | some a =>
      rw [hT] at ht
      obtain ⟨b, hb, hr⟩ := ht
      rw [hb]
      simp only
      rw [take_item (i + 1) _ hr]
      have hok := item_ok b
      obtain ⟨x, hx⟩ : ∃ x, itemD b = x := ⟨_, rfl⟩
      rw [hx] at hok ⊢
      unfold effI
      by_cases he : x.e ≠ 0
      · rw [if_pos he, if_pos he]
        exact ⟨rfl, fun l h => by cases h⟩
      rw [if_neg he, if_neg he]
      have hn : (stI out 0 St.nil).names = namesI out 0 [] 0 := by rw [stI_eq out 0 _ ho]; rfl
      have hc : (x.gives = true ∧ (lookN x.name (stI out 0 St.nil).names).isSome = true) ↔ twice x out = true := by
        rw [hn, look_names, twice_iff]; simp
      by_cases hw : twice x out = true
      · rw [if_pos (hc.2 hw), if_pos hw]
        exact ⟨rfl, fun l h => by cases h⟩
      rw [if_neg (fun e => hw (hc.1 e)), if_neg hw]
      have es : effS (i + 1) x (stI out 0 St.nil) = stI (out ++ [x]) 0 St.nil := by rw [stI_snoc, hl, Nat.zero_add]
      simp only [es]
      have ih := lines_items r (i + 1) (out ++ [x]) (by simp [hl]) (fun y hy => by
        rcases List.mem_append.1 hy with h | h
        · exact ho y h
        · rw [List.mem_singleton] at h; rw [h]; exact hok) (by
        unfold UniqI
        rw [List.pairwise_append]
        refine ⟨hu, by simp, fun y hy z hz => ?_⟩
        rw [List.mem_singleton] at hz
        subst hz
        rintro ⟨g1, g2, g3⟩
        apply hw
        rw [twice_iff, g2, Bool.true_and, List.any_eq_true]
        exact ⟨y, hy, by simp [g1, g3]⟩)
      exact ⟨ih.1, fun l h => by
        have := ih.2 l h
        exact ⟨this.1, this.2.1, by rw [this.2.2]; simp; omega⟩⟩
theorem sum_pcs : ∀ (l : List It) (i : Nat), (pcsI i l).length = sumW l
  | [], _ => rfl
  | x :: r, i => by simp [pcsI, sumW, pc1_len, sum_pcs r]
theorem sumW_app : ∀ a b : List It, sumW (a ++ b) = sumW a + sumW b
  | [], b => by simp [sumW]
  | x :: a, b => by simp [sumW, sumW_app a b]; omega
theorem dataF_s : ∀ (l : List It) (D : List UInt8) (A : List Nat), (dataF l D A).1 = dataI l D
  | [], D, A => rfl
  | x :: r, D, A => by simp only [dataF, dataI]; rw [dataF_s r]; rfl
theorem dataI_app : ∀ (a b : List It) (D : List UInt8), dataI (a ++ b) D = dataI b (dataI a D)
  | [], b, D => rfl
  | x :: a, b, D => dataI_app a b _
def of1 (x : It) (D : List UInt8) : Nat := if x.kind = 6 then up D.length 4 else D.length
def atsI : List It → List UInt8 → List Nat
  | [], _ => []
  | x :: r, D => of1 x D :: atsI r (da1 x D)
theorem up4_ge (n : Nat) : n ≤ up n 4 ∧ up n 4 ≤ n + 3 := by unfold up; omega
theorem dataF_a : ∀ (l : List It) (D : List UInt8) (A : List Nat), (dataF l D A).2 = A ++ atsI l D
  | [], D, A => by simp [dataF, atsI]
  | x :: r, D, A => by
    simp only [dataF, atsI]
    rw [dataF_a r]
    have h := up4_ge D.length
    have e : (if x.kind = 6 then D ++ List.replicate (up D.length 4 - D.length) 0 else D).length = of1 x D := by
      unfold of1
      split
      · simp; omega
      · rfl
    rw [e]
    simp
    rfl
theorem ats_app : ∀ (a b : List It) (D : List UInt8), atsI (a ++ b) D = atsI a D ++ atsI b (dataI a D)
  | [], b, D => rfl
  | x :: a, b, D => by simp [atsI, ats_app a b, dataI]
theorem ats_len : ∀ (a : List It) (D : List UInt8), (atsI a D).length = a.length
  | [], _ => rfl
  | x :: a, D => by simp [atsI, ats_len a]
theorem roomsI_app : ∀ a b : List It, roomsI (a ++ b) = roomsI a ++ roomsI b
  | [], b => rfl
  | x :: a, b => by simp [roomsI, roomsI_app a b]
theorem up4_add (B e : Nat) (h : B % 4 = 0) : up (B + e) 4 = B + up e 4 := by unfold up; omega
theorem rooms_end (B : Nat) (hB : B % 4 = 0) : ∀ (r : List It) (i e : Nat) (A : List Nat), (startsP (B + e) (roomsI r)).2 = B + (roomsF r i e A).2 ∧ e ≤ (roomsF r i e A).2
  | [], i, e, A => ⟨rfl, Nat.le_refl _⟩
  | x :: r, i, e, A => by
    unfold roomsI rm1 roomsF
    have h4 := up4_ge e
    by_cases h : x.kind = 7
    · rw [if_pos h, if_pos h]
      have ih := rooms_end B hB r (i + 1) (up e 4 + x.n.toNat) (A.set i (up e 4))
      refine ⟨?_, by omega⟩
      show (startsP (up (B + e) 4 + x.n.toNat) (roomsI r)).2 = _
      rw [up4_add B e hB, Nat.add_assoc]
      exact ih.1
    · rw [if_neg h, if_neg h]
      exact rooms_end B hB r (i + 1) e A
theorem rooms_low : ∀ (r : List It) (i e j : Nat) (A : List Nat), j < i → (roomsF r i e A).1.getD j 0 = A.getD j 0
  | [], i, e, j, A, h => rfl
  | x :: r, i, e, j, A, h => by
    unfold roomsF
    split
    · rw [rooms_low r _ _ _ _ (by omega)]
      rw [List.getD_eq_getElem?_getD, List.getD_eq_getElem?_getD, List.getElem?_set_ne (by omega)]
    · exact rooms_low r _ _ _ _ (by omega)
theorem rooms_other (x : It) (q : List It) (hx : x.kind ≠ 7) : ∀ (p : List It) (i e : Nat) (A : List Nat), (roomsF (p ++ x :: q) i e A).1.getD (i + p.length) 0 = A.getD (i + p.length) 0
  | [], i, e, A => by
    show (roomsF (x :: q) i e A).1.getD i 0 = _
    unfold roomsF
    rw [if_neg hx]
    exact rooms_low q _ _ _ _ (by omega)
  | y :: p, i, e, A => by
    show (roomsF (y :: (p ++ x :: q)) i e A).1.getD (i + (p.length + 1)) 0 = A.getD (i + (p.length + 1)) 0
    unfold roomsF
    have e1 : i + (p.length + 1) = i + 1 + p.length := by omega
    rw [e1]
    split
    · rw [rooms_other x q hx p]
      rw [List.getD_eq_getElem?_getD, List.getD_eq_getElem?_getD, List.getElem?_set_ne (by omega)]
    · exact rooms_other x q hx p _ _ _
theorem rooms_at (B : Nat) (hB : B % 4 = 0) (x : It) (q : List It) (hx : x.kind = 7) : ∀ (p : List It) (i e : Nat) (A : List Nat), i + p.length < A.length → (startsP (B + e) (roomsI (p ++ x :: q))).1.getD (roomsI p).length 0 = B + (roomsF (p ++ x :: q) i e A).1.getD (i + p.length) 0
  | [], i, e, A, h => by
    show (startsP (B + e) (roomsI (x :: q))).1.getD 0 0 = B + (roomsF (x :: q) i e A).1.getD i 0
    unfold roomsI rm1 roomsF
    rw [if_pos hx, if_pos hx, rooms_low q _ _ _ _ (by omega)]
    show up (B + e) 4 = _
    rw [up4_add B e hB, List.getD_eq_getElem?_getD, List.getElem?_set_self (by simpa using h)]
    rfl
  | y :: p, i, e, A, h => by
    show (startsP (B + e) (roomsI (y :: (p ++ x :: q)))).1.getD (roomsI (y :: p)).length 0 = B + (roomsF (y :: (p ++ x :: q)) i e A).1.getD (i + (p.length + 1)) 0
    have e1 : i + (p.length + 1) = i + 1 + p.length := by omega
    rw [e1]
    have h' : i + (p.length + 1) < A.length := h
    by_cases g : y.kind = 7
    · have e2 : ∀ r, roomsI (y :: r) = y.n.toNat :: roomsI r := fun r => by show rm1 y ++ roomsI r = _; unfold rm1; rw [if_pos g]; rfl
      rw [e2, e2]
      unfold roomsF
      rw [if_pos g]
      show (up (B + e) 4 :: (startsP (up (B + e) 4 + y.n.toNat) (roomsI (p ++ x :: q))).1).getD ((roomsI p).length + 1) 0 = _
      rw [List.getD_cons_succ, up4_add B e hB, Nat.add_assoc]
      exact rooms_at B hB x q hx p (i + 1) _ _ (by rw [List.length_set]; omega)
    · have e2 : ∀ r, roomsI (y :: r) = roomsI r := fun r => by show rm1 y ++ roomsI r = _; unfold rm1; rw [if_neg g]; rfl
      rw [e2, e2]
      unfold roomsF
      rw [if_neg g]
      exact rooms_at B hB x q hx p (i + 1) _ _ (by omega)
/-- The state of all items. -/
def allS (l : List It) : St := ⟨pcsI 0 l, dataI l [], roomsI l, namesI l 0 [] 0⟩
theorem base_mod (l : List It) : baseD l % 4 = 0 := by unfold baseD up; omega
theorem dataAt_all (l : List It) : dataAt (allS l) = baseD l := by unfold dataAt baseD allS; rw [sum_pcs]
theorem dataD_s (l : List It) : (dataD l).s = dataI l [] := dataF_s l [] []
theorem behind_all (l : List It) : behindP (allS l) = baseD l + (dataI l []).length := by unfold behindP; rw [dataAt_all]; rfl
theorem dataD_a (l : List It) : (dataD l).a = (roomsF l 0 (dataI l []).length (atsI l [])).1 := by
  unfold dataD
  simp only [dataF_s, dataF_a, List.nil_append]
theorem dataD_e (l : List It) : (dataD l).e = (roomsF l 0 (dataI l []).length (atsI l [])).2 := by
  unfold dataD
  simp only [dataF_s, dataF_a, List.nil_append]
/-- What a line's name stands for. -/
theorem addr_item (l : List It) (pre : List It) (x : It) (q : List It) (hl : l = pre ++ x :: q) (hok : ItOk x) (hg : x.gives = true) :
    addrP (allS l) (plI x (sumW pre) (dataI pre []) (roomsI pre).length) = if x.kind = 1 then 4 * sumW pre else baseD l + (dataD l).a.getD pre.length 0 := by
  have hk : x.kind = 1 ∨ x.kind = 5 ∨ x.kind = 6 ∨ x.kind = 7 := by
    have := hok.kind
    have h2 : x.kind = 1 ∨ 5 ≤ x.kind := by simpa [It.gives] using hg
    omega
  have hat : (atsI l []).getD pre.length 0 = of1 x (dataI pre []) := by
    rw [hl, ats_app, List.getD_eq_getElem?_getD, List.getElem?_append_right (by rw [ats_len]; exact Nat.le_refl _), ats_len, Nat.sub_self]
    rfl
  have hoth : x.kind ≠ 7 → (dataD l).a.getD pre.length 0 = of1 x (dataI pre []) := fun h7 => by
    rw [dataD_a, ← hat]
    have := rooms_other x q h7 pre 0 (dataI l []).length (atsI l [])
    rw [Nat.zero_add, ← hl] at this
    exact this
  unfold plI
  rcases hk with e | e | e | e
  · rw [if_pos e, if_pos e]; rfl
  · rw [if_neg (by omega), if_pos e, if_neg (by omega), hoth (by omega)]
    show dataAt (allS l) + _ = _
    rw [dataAt_all]
    unfold of1
    rw [if_neg (by omega)]
  · rw [if_neg (by omega), if_neg (by omega), if_pos e, if_neg (by omega), hoth (by omega)]
    show dataAt (allS l) + _ = _
    rw [dataAt_all]
    unfold of1
    rw [if_pos e]
  · rw [if_neg (by omega), if_neg (by omega), if_neg (by omega), if_neg (by omega)]
    show (startsP (behindP (allS l)) (roomsI l)).1.getD _ 0 = _
    rw [behind_all, dataD_a]
    have := rooms_at (baseD l) (base_mod l) x q e pre 0 (dataI l []).length (atsI l []) (by rw [ats_len, hl]; simp)
    rw [← hl, Nat.zero_add] at this
    exact this
theorem addr_all (l : List It) (nm : List UInt8) (hok : ∀ x ∈ l, ItOk x) : ∀ (r pre : List It), l = pre ++ r → addrF l nm r pre.length (4 * sumW pre) = (lookN nm (namesI r (sumW pre) (dataI pre []) (roomsI pre).length)).map (addrP (allS l))
  | [], pre, h => rfl
  | x :: q, pre, h => by
    have hx : ItOk x := hok x (by rw [h]; simp)
    have ih := addr_all l nm hok q (pre ++ [x]) (by rw [h]; simp)
    rw [namesI, lookN_app]
    unfold addrF nm1
    cases hg : x.gives with
    | true =>
      simp only [if_true, lookN, Bool.true_and]
      by_cases e : x.name = nm
      · simp only [e, beq_self_eq_true, if_true, Option.map_some]
        rw [addr_item l pre x q h hx hg]
        split <;> rfl
      · have e2 : (x.name == nm) = false := by simp [e]
        simp only [e2, e, if_false]
        have e3 : 4 * sumW (pre ++ [x]) = 4 * sumW pre + 4 * wordsOfD x := by rw [sumW_app]; simp [sumW]; omega
        have e4 : dataI (pre ++ [x]) [] = da1 x (dataI pre []) := by rw [dataI_app]; rfl
        have e5 : (roomsI (pre ++ [x])).length = (roomsI pre).length + (rm1 x).length := by rw [roomsI_app]; simp [roomsI]
        have e6 : sumW (pre ++ [x]) = sumW pre + wordsOfD x := by rw [sumW_app]; simp [sumW]
        rw [e3, e4, e5, e6, List.length_append] at ih
        exact ih
    | false =>
      simp only [Bool.false_and, Bool.false_eq_true, if_false, lookN]
      have e3 : 4 * sumW (pre ++ [x]) = 4 * sumW pre + 4 * wordsOfD x := by rw [sumW_app]; simp [sumW]; omega
      have e4 : dataI (pre ++ [x]) [] = da1 x (dataI pre []) := by rw [dataI_app]; rfl
      have e5 : (roomsI (pre ++ [x])).length = (roomsI pre).length + (rm1 x).length := by rw [roomsI_app]; simp [roomsI]
      have e6 : sumW (pre ++ [x]) = sumW pre + wordsOfD x := by rw [sumW_app]; simp [sumW]
      rw [e3, e4, e5, e6, List.length_append] at ih
      exact ih
theorem addrD_eq (l : List It) (nm : List UInt8) (hok : ∀ x ∈ l, ItOk x) : addrD l nm = (lookN nm (allS l).names).map (addrP (allS l)) := addr_all l nm hok l [] rfl
end Go.Proofs.YtmmnkoeajdeldaaGreatDoor.Pl
namespace Go.Proofs.YtmmnkoeajdeldaaGreatDoor.Pl
open Go.RowKit
open Go.Lib (itoa decDigits)
set_option linter.unusedVariables false
set_option linter.unusedSimpArgs false
theorem tokN_s {l : List UInt8} {t : Tk} {n : Nat} (h : tokN l = some (t, n)) : t.s.length ≤ l.length := by
  cases l with
  | nil => cases h
  | cons c r =>
    simp only [tokN] at h
    split at h
    · cases h; simp
    split at h
    · cases h; simp only; rw [List.length_take]; omega
    split at h
    · rw [Option.map_eq_some_iff] at h
      obtain ⟨y, hy, e⟩ := h
      cases e
      have := quo_le r.length r y.1 y.2 (by simpa [quo] using hy)
      simp only [List.length_cons]
      omega
    by_cases g : spanN digB ((c :: r).drop (if c.toNat = 45 then 1 else 0)) = 0
    · rw [if_pos g] at h; cases h
    · rw [if_neg g] at h; cases h; simp
theorem toksF_s : ∀ (f : Nat) (l : List UInt8) (a : List Tk), toksF f l = some a → ∀ t ∈ a, t.s.length ≤ l.length
  | 0, l, a, h, t, ht => by cases h; cases ht
  | f + 1, [], a, h, t, ht => by cases h; cases ht
  | f + 1, c :: r, a, h, t, ht => by
    simp only [toksF] at h
    split at h
    · cases h; cases ht
    split at h
    · have := toksF_s f r a h t ht
      simp; omega
    · rcases hN : tokN (c :: r) with _ | ⟨u, n⟩
      · rw [hN] at h; cases h
      · rw [hN] at h
        simp only [Option.map_eq_some_iff] at h
        obtain ⟨y, hy, e⟩ := h
        subst e
        rcases List.mem_cons.1 ht with e | ht
        · rw [e]; exact tokN_s hN
        · have := toksF_s f _ y hy t ht
          rw [List.length_drop] at this
          omega
theorem item_s (b : List Dt) : (itemD b).s = [] ∨ (itemD b).s = (dg b 2).s := by
  unfold itemD
  split
  · exact .inl rfl
  split
  · exact .inl rfl
  split
  · exact .inl rfl
  split
  · refine .inl ?_
    unfold pairD; (repeat' split) <;> rfl
  split
  · refine .inl ?_
    (repeat' split) <;> rfl
  split
  · split
    · exact .inl rfl
    · exact .inr rfl
  split
  · refine .inl ?_
    (repeat' split) <;> rfl
  split
  · refine .inl ?_
    (repeat' split) <;> rfl
  split
  · exact .inl rfl
  · refine .inl ?_
    unfold insD; (repeat' split) <;> rfl
theorem item_len {s : List UInt8} {b : List Dt} (h : toksD s = some b) : (itemD b).s.length ≤ s.length := by
  have ht := toks_rel s
  cases hT : toks s with
  | none => rw [hT] at ht; simp only at ht; rw [ht] at h; cases h
  | some a =>
    rw [hT] at ht
    obtain ⟨b', hb, hr⟩ := ht
    rw [hb] at h
    cases h
    rcases item_s b with e | e
    · rw [e]; simp
    · rw [e]
      rcases Nat.lt_or_ge 2 a.length with h2 | h2
      · have r := hr.at 2 h2
        rw [← r.s]
        have hm : tg a 2 ∈ a := by
          unfold tg
          rw [List.getD_eq_getElem?_getD, List.getElem?_eq_getElem h2]
          exact List.getElem_mem h2
        exact toksF_s s.length s a hT _ hm
      · have hl := hr.len
        have : dg b 2 = Dt.nil := by
          unfold dg
          rw [List.getD_eq_getElem?_getD, List.getElem?_eq_none (by omega)]; rfl
        rw [this]
        simp [Dt.nil]
theorem items_s (M : Nat) : ∀ (ls : List (List UInt8)) (i : Nat) (out l : List It), itemsF i out ls = .ok l → (∀ x ∈ out, x.s.length ≤ M) → (∀ s ∈ ls, s.length ≤ M) → ∀ x ∈ l, x.s.length ≤ M
  | [], i, out, l, h, ho, hs, x, hx => by cases h; exact ho x hx
  | s :: r, i, out, l, h, ho, hs, x, hx => by
    simp only [itemsF] at h
    cases hb : toksD s with
    | none => rw [hb] at h; cases h
    | some b =>
      rw [hb] at h
      simp only at h
      split at h
      · cases h
      split at h
      · cases h
      · refine items_s M r _ _ l h (fun y hy => ?_) (fun y hy => hs y (List.mem_cons_of_mem _ hy)) x hx
        rcases List.mem_append.1 hy with g | g
        · exact ho y g
        · rw [List.mem_singleton] at g
          rw [g]
          exact Nat.le_trans (item_len hb) (hs s (by simp))
theorem da1_len (x : It) (D : List UInt8) (h : x.s.length ≤ 65536) : (da1 x D).length ≤ D.length + 65547 ∧ D.length ≤ (da1 x D).length := by
  have hu := up4_ge D.length
  unfold da1
  rw [List.length_append]
  have h1 : (if x.kind = 6 then D ++ List.replicate (up D.length 4 - D.length) 0 else D).length ≤ D.length + 3 ∧ D.length ≤ (if x.kind = 6 then D ++ List.replicate (up D.length 4 - D.length) 0 else D).length := by
    split
    · simp; omega
    · omega
  have h2 : (if x.kind = 5 then x.s else if x.kind = 6 then putB (u32N x.n) 4 else []).length ≤ 65536 := by
    split
    · exact h
    split
    · rw [putB_len]; omega
    · simp
  omega
theorem dataI_len : ∀ (l : List It) (D : List UInt8), (∀ x ∈ l, x.s.length ≤ 65536) → (dataI l D).length ≤ D.length + 65547 * l.length
  | [], D, _ => by simp [dataI]
  | x :: r, D, h => by
    have h1 := da1_len x D (h x (by simp))
    have ih := dataI_len r (da1 x D) fun y hy => h y (List.mem_cons_of_mem _ hy)
    show (dataI r (da1 x D)).length ≤ _
    simp only [List.length_cons]; omega
theorem ats_bd : ∀ (l : List It) (D : List UInt8), (∀ x ∈ l, x.s.length ≤ 65536) → ∀ a ∈ atsI l D, a ≤ D.length + 65547 * l.length
  | [], D, _, a, ha => by cases ha
  | x :: r, D, h, a, ha => by
    have h1 := da1_len x D (h x (by simp))
    have hu := up4_ge D.length
    rcases List.mem_cons.1 ha with e | ha
    · have : of1 x D ≤ D.length + 3 := by unfold of1; split <;> omega
      simp only [List.length_cons]; omega
    · have ih := ats_bd r (da1 x D) (fun y hy => h y (List.mem_cons_of_mem _ hy)) a ha
      simp only [List.length_cons]; omega
theorem rooms_bd (M : Nat) : ∀ (r : List It) (i e : Nat) (A : List Nat), (∀ x ∈ r, ItOk x) → (∀ a ∈ A, a ≤ M) → e + 65540 * r.length ≤ M → ∀ a ∈ (roomsF r i e A).1, a ≤ M
  | [], i, e, A, _, hA, _, a, ha => hA a ha
  | x :: r, i, e, A, hx, hA, hM, a, ha => by
    have hu := up4_ge e
    unfold roomsF at ha
    simp only [List.length_cons] at hM
    have hr : ∀ y ∈ r, ItOk y := fun y hy => hx y (List.mem_cons_of_mem _ hy)
    split at ha
    · rename_i h7
      have hn := (hx x (by simp)).n0 h7
      refine rooms_bd M r _ _ _ hr (fun b hb => ?_) (by omega) a ha
      rcases List.mem_or_eq_of_mem_set hb with g | g
      · exact hA b g
      · omega
    · exact rooms_bd M r _ _ _ hr hA (by omega) a ha
theorem sumW_le : ∀ l : List It, sumW l ≤ 2 * l.length
  | [] => by simp [sumW]
  | x :: r => by
    have h : wordsOfD x ≤ 2 := by unfold wordsOfD; (repeat' split) <;> omega
    have := sumW_le r
    simp only [sumW, List.length_cons]; omega
theorem getD_bd {l : List Nat} {M : Nat} (h : ∀ a ∈ l, a ≤ M) (i : Nat) : l.getD i 0 ≤ M := by
  rw [List.getD_eq_getElem?_getD]
  cases hi : l[i]? with
  | none => simp
  | some a => exact h a (List.mem_of_getElem? hi)
theorem addr_bd (l : List It) (M : Nat) (nm : List UInt8) (hM : ∀ a ∈ (dataD l).a, a ≤ M) : ∀ (r : List It) (i at' n : Nat), addrF l nm r i at' = some n → n ≤ at' + 8 * r.length + baseD l + M
  | [], i, at', n, h => by cases h
  | x :: r, i, at', n, h => by
    unfold addrF at h
    simp only [List.length_cons]
    split at h
    · split at h
      · cases h; omega
      · cases h
        have := getD_bd hM i
        omega
    · have hw : wordsOfD x ≤ 2 := by unfold wordsOfD; (repeat' split) <;> omega
      have := addr_bd l M nm hM r _ _ n h
      omega
/-- What is known of all items. -/
structure AllOk (l : List It) : Prop where
  ok : ∀ x ∈ l, ItOk x
  len : l.length ≤ 400
  s : ∀ x ∈ l, x.s.length ≤ 65536
  u : UniqI l
theorem addrD_bd {l : List It} (h : AllOk l) (nm : List UInt8) (n : Nat) (hn : addrD l nm = some n) : n ≤ 100000000 := by
  have h1 := ats_bd l [] h.s
  have h2 := dataI_len l [] h.s
  simp only [List.length_nil, Nat.zero_add] at h1 h2
  have hl := h.len
  have hb : ∀ a ∈ (dataD l).a, a ≤ 60000000 := by
    rw [dataD_a]
    exact rooms_bd 60000000 l 0 _ _ h.ok (fun a ha => by have := h1 a ha; omega) (by omega)
  have := addr_bd l 60000000 nm hb l 0 0 n hn
  have hw := sumW_le l
  have hB : baseD l ≤ 10000 := by unfold baseD up; omega
  omega
theorem enc_lui (a m : Nat) (ha : a < 16) (hm : m ≤ 65535) : encE ⟨19, a, 0, 0, (m : Int)⟩ = 0 := by
  have h : cls 19 = 2 := rfl
  unfold encE
  simp only [h]
  rw [if_neg (by decide), if_neg (by omega), if_neg (by simp [over]), if_neg]
  rintro ⟨-, e⟩
  have hu : usg 19 = true := rfl
  unfold fits at e
  rw [if_pos hu] at e
  simp at e
  omega
theorem enc_ori (a m : Nat) (ha : a < 16) (hm : m ≤ 65535) : encE ⟨16, a, a, 0, (m : Int)⟩ = 0 := by
  have h : cls 16 = 4 := rfl
  unfold encE
  simp only [h]
  rw [if_neg (by decide), if_neg (by omega), if_neg (by simp [over]), if_neg]
  rintro ⟨-, e⟩
  have hu : usg 16 = true := rfl
  unfold fits at e
  rw [if_pos hu] at e
  simp at e
  omega
theorem fitP_ok (x : Ins) (n : Int) (h : -2147483648 ≤ n ∧ n ≤ 2147483647) : fitP x n = if encE { x with imm := n } = 0 then .ok n else .error (encE { x with imm := n }) := by
  unfold fitP inP
  rw [if_neg (by omega)]
  rfl
theorem enc_fit (x : Ins) (n : Int) (h : -2147483648 ≤ n ∧ n ≤ 2147483647) : (fitP x n >>= fun n => if encE { x with imm := n } = 0 then .ok (wordOf { x with imm := n }) else .error (encE { x with imm := n })) = (if encE { x with imm := n } = 0 then .ok (wordOf { x with imm := n }) else .error (encE { x with imm := n }) : Except Nat Nat) := by
  rw [fitP_ok x n h]
  by_cases he : encE { x with imm := n } = 0
  · rw [if_pos he]
    show (if encE { x with imm := n } = 0 then _ else _) = _
    rw [if_pos he]
  · rw [if_neg he, if_neg he]
    rfl
theorem words_one (S : St) (p : Pc) (k : Nat) (r : List Pc) : wordsP S k (p :: r) = match encP S p k with | .error e => .error (e, p.line) | .ok w => match wordsP S (k + 1) r with | .error e => .error e | .ok l => .ok (w :: l) := rfl
theorem tmod_iff (n k : Nat) : ((n : Int) - 4 * ((k : Int) + 1)).tmod 4 ≠ 0 ↔ n % 4 ≠ 0 := by
  have h := Int.dvd_iff_tmod_eq_zero (a := (4 : Int)) (b := (n : Int) - 4 * ((k : Int) + 1))
  constructor
  · intro e g; exact e (h.1 (by omega))
  · intro e g; have := h.2 g; omega
theorem encN_eq {l : List It} (h : AllOk l) (ln : Nat) (x : It) (hx : x.kind = 2) (hn : x.name ≠ []) (k : Nat) (hk : k ≤ 10000) :
    encP (allS l) (pcN ln x.x x.name (if 25 ≤ x.x.op ∧ x.x.op ≤ 29 then 3 else 0)) k = match addrD l x.name with
      | none => .error 7
      | some n => match withN x n (4 * k) with
        | .error e => .error e
        | .ok y => if encE y = 0 then .ok (wordOf y) else .error (encE y) := by
  have ha := addrD_eq l x.name h.ok
  unfold encP
  show (standsP (allS l) (pcN ln x.x x.name (if 25 ≤ x.x.op ∧ x.x.op ≤ 29 then 3 else 0)) k >>= fun n => if encE { x.x with imm := n } = 0 then Except.ok (wordOf { x.x with imm := n }) else Except.error (encE { x.x with imm := n })) = _
  unfold standsP
  show ((match lookN x.name (allS l).names with | none => _ | some v => _) >>= _) = _
  rw [ha]
  cases hv : lookN x.name (allS l).names with
  | none => rfl
  | some v =>
    rw [hv] at ha
    simp only [Option.map_some] at ha ⊢
    have hb := addrD_bd h _ _ ha
    obtain ⟨n, hnn⟩ : ∃ n, addrP (allS l) v = n := ⟨_, rfl⟩
    rw [hnn] at hb ⊢
    unfold withN pcN
    rw [if_neg hn]
    simp only
    by_cases hj : 25 ≤ x.x.op ∧ x.x.op ≤ 29
    · rw [if_pos hj, if_pos hj, if_neg (by decide), if_neg (by decide), if_pos rfl]
      by_cases hm : n % 4 ≠ 0
      · rw [if_pos ((tmod_iff n k).2 hm), if_pos hm]; rfl
      · rw [if_neg (fun e => hm ((tmod_iff n k).1 e)), if_neg hm]
        have e : (n : Int) - ((4 * k : Nat) : Int) - 4 = (n : Int) - 4 * ((k : Int) + 1) := by omega
        rw [e]
        have hr : -2147483648 ≤ ((n : Int) - 4 * ((k : Int) + 1)).tdiv 4 ∧ ((n : Int) - 4 * ((k : Int) + 1)).tdiv 4 ≤ 2147483647 := by
          have h1 := Int.tmod_add_mul_tdiv ((n : Int) - 4 * ((k : Int) + 1)) 4
          have h2 : ((n : Int) - 4 * ((k : Int) + 1)).tmod 4 = 0 := by
            rcases Classical.em (((n : Int) - 4 * ((k : Int) + 1)).tmod 4 = 0) with g | g
            · exact g
            · exact absurd ((tmod_iff n k).1 g) hm
          omega
        exact enc_fit x.x _ hr
    · rw [if_neg hj, if_neg hj, if_neg (by decide), if_neg (by decide), if_neg (by decide)]
      exact enc_fit x.x _ (by omega)
theorem u32_le (n : Int) : u32N n < 4294967296 := by unfold u32N; omega
theorem words_item {l : List It} (h : AllOk l) (x : It) (hx : ItOk x) (i k : Nat) (hk : k ≤ 9000) (rest : List Pc) :
    wordsP (allS l) k (pc1 (i + 1) x ++ rest) = match wordsD l x (4 * k) with
      | .error e => .error (e, i + 1)
      | .ok w => match wordsP (allS l) (k + wordsOfD x) rest with
        | .error e => .error e
        | .ok r => .ok (w ++ r) := by
  have h0 : ∀ (h1 : pc1 (i + 1) x = []) (h2 : wordsD l x (4 * k) = .ok []) (h3 : wordsOfD x = 0), wordsP (allS l) k (pc1 (i + 1) x ++ rest) = match wordsD l x (4 * k) with
      | .error e => .error (e, i + 1)
      | .ok w => match wordsP (allS l) (k + wordsOfD x) rest with
        | .error e => .error e
        | .ok r => .ok (w ++ r) := fun h1 h2 h3 => by
    rw [h1, h2, h3]
    simp only [List.nil_append, Nat.add_zero]
    cases wordsP (allS l) k rest <;> rfl
  have hz : ∀ (h2 : ¬ x.kind = 2) (h3 : ¬ x.kind = 3) (h4 : ¬ x.kind = 4), wordsP (allS l) k (pc1 (i + 1) x ++ rest) = match wordsD l x (4 * k) with
      | .error e => .error (e, i + 1)
      | .ok w => match wordsP (allS l) (k + wordsOfD x) rest with
        | .error e => .error e
        | .ok r => .ok (w ++ r) := fun h2 h3 h4 => h0 (by unfold pc1; rw [if_neg h2, if_neg h3, if_neg h4]) (by
      unfold wordsD
      rw [if_neg (by omega)]
      simp only
      rw [if_neg h2, if_neg h3, if_neg h4]) (by unfold wordsOfD; rw [if_neg (by omega), if_neg h3])
  by_cases h2 : x.kind = 2
  · have hw : wordsOfD x = 1 := by unfold wordsOfD; rw [if_pos (.inl h2)]
    rw [hw]
    unfold pc1 wordsD
    rw [if_pos h2]
    by_cases hn : x.name = []
    · rw [if_pos hn, if_neg (c := (x.kind = 2 ∨ x.kind = 3) ∧ x.name ≠ []) (fun e => e.2 hn)]
      simp only
      rw [if_pos h2]
      unfold withN
      rw [if_pos hn, List.singleton_append, words_one]
      have e : encP (allS l) (pcI (i + 1) x.x) k = if encE x.x = 0 then .ok (wordOf x.x) else .error (encE x.x) := rfl
      rw [e]
      simp only
      by_cases he : encE x.x = 0
      · rw [if_pos he, if_pos he]
        simp only
        cases wordsP (allS l) (k + 1) rest <;> rfl
      · rw [if_neg he, if_neg he]
        rfl
    · rw [if_neg hn, if_pos (c := (x.kind = 2 ∨ x.kind = 3) ∧ x.name ≠ []) ⟨.inl h2, hn⟩, List.singleton_append, words_one, encN_eq h (i + 1) x h2 hn k (by omega)]
      cases addrD l x.name with
      | none => rfl
      | some n =>
        simp only
        rw [if_pos h2]
        cases withN x n (4 * k) with
        | error e => rfl
        | ok y =>
          simp only
          by_cases he : encE y = 0
          · rw [if_pos he, if_pos he]
            simp only
            cases wordsP (allS l) (k + 1) rest <;> rfl
          · rw [if_neg he, if_neg he]
            rfl
  by_cases h3 : x.kind = 3
  · have ha := hx.reg h3
    have hw : wordsOfD x = 2 := by unfold wordsOfD; rw [if_neg (by omega), if_pos h3]
    rw [hw]
    unfold pc1 wordsD
    rw [if_neg h2, if_pos h3]
    have hfin : ∀ (u : Nat) (p1 p2 : Pc), u < 4294967296 → encP (allS l) p1 k = .ok (wordOf ⟨19, x.x.a, 0, 0, (u / 65536 : Nat)⟩) → encP (allS l) p2 (k + 1) = .ok (wordOf ⟨16, x.x.a, x.x.a, 0, (u % 65536 : Nat)⟩) →
        wordsP (allS l) k ([p1, p2] ++ rest) = match (Except.ok [encW ⟨19, x.x.a, 0, 0, (u / 65536 : Nat)⟩, encW ⟨16, x.x.a, x.x.a, 0, (u % 65536 : Nat)⟩] : Except Nat (List Nat)) with
          | .error e => .error (e, i + 1)
          | .ok w => match wordsP (allS l) (k + 2) rest with
            | .error e => .error e
            | .ok r => .ok (w ++ r) := fun u p1 p2 hu e1 e2 => by
      have e3 : encW ⟨19, x.x.a, 0, 0, (u / 65536 : Nat)⟩ = wordOf ⟨19, x.x.a, 0, 0, (u / 65536 : Nat)⟩ := if_pos (enc_lui _ _ ha (by omega))
      have e4 : encW ⟨16, x.x.a, x.x.a, 0, (u % 65536 : Nat)⟩ = wordOf ⟨16, x.x.a, x.x.a, 0, (u % 65536 : Nat)⟩ := if_pos (enc_ori _ _ ha (by omega))
      rw [e3, e4]
      show wordsP (allS l) k (p1 :: p2 :: rest) = _
      rw [words_one, e1]
      simp only
      rw [words_one, e2]
      simp only
      cases wordsP (allS l) (k + 1 + 1) rest <;> rfl
    by_cases hn : x.name = []
    · rw [if_pos hn, if_neg (c := (x.kind = 2 ∨ x.kind = 3) ∧ x.name ≠ []) (fun e => e.2 hn)]
      simp only
      rw [if_neg h2, if_pos h3, if_pos hn]
      have hu := u32_le x.n
      refine hfin (u32N x.n) _ _ hu ?_ ?_
      · show (if encE ⟨19, x.x.a, 0, 0, (u32N x.n / 65536 : Nat)⟩ = 0 then _ else _) = _
        rw [if_pos (enc_lui _ _ ha (by omega))]
        rfl
      · show (if encE ⟨16, x.x.a, x.x.a, 0, (u32N x.n % 65536 : Nat)⟩ = 0 then _ else _) = _
        rw [if_pos (enc_ori _ _ ha (by omega))]
        rfl
    · rw [if_neg hn, if_pos (c := (x.kind = 2 ∨ x.kind = 3) ∧ x.name ≠ []) ⟨.inr h3, hn⟩]
      have haD := addrD_eq l x.name h.ok
      have hst : ∀ (p : Pc) (j : Nat), p.raw = false → p.named = true → p.nm = x.name → encP (allS l) p j = (standsP (allS l) p j >>= fun n => if encE { p.x with imm := n } = 0 then Except.ok (wordOf { p.x with imm := n }) else Except.error (encE { p.x with imm := n })) := fun p j q1 q2 q3 => by
        unfold encP
        rw [q1, q2]
        rfl
      cases hv : lookN x.name (allS l).names with
      | none =>
        rw [hv] at haD
        have haD' : addrD l x.name = none := haD
        rw [haD']
        show wordsP (allS l) k (_ :: _ :: rest) = _
        have e7 : standsP (allS l) (pcN (i + 1) ⟨19, x.x.a, 0, 0, 0⟩ x.name 1) k = .error 7 := by
          unfold standsP
          show (match lookN x.name (allS l).names with | none => (Except.error 7 : Except Nat Int) | some v => _) = _
          rw [hv]
        rw [words_one, hst _ _ rfl rfl rfl, e7]
        rfl
      | some v =>
        rw [hv] at haD
        simp only [Option.map_some] at haD
        have hb := addrD_bd h _ _ haD
        rw [haD]
        simp only
        rw [if_neg h2, if_pos h3, if_neg hn]
        obtain ⟨n, hnn⟩ : ∃ n, addrP (allS l) v = n := ⟨_, rfl⟩
        rw [hnn] at hb ⊢
        refine hfin n _ _ (by omega) ?_ ?_
        · rw [hst _ _ rfl rfl rfl]
          unfold standsP
          show ((match lookN x.name (allS l).names with | none => _ | some v => _) >>= _) = _
          rw [hv]
          show ((fitP ⟨19, x.x.a, 0, 0, 0⟩ ((addrP (allS l) v / 65536 : Nat) : Int)) >>= _) = _
          rw [hnn]
          refine (enc_fit ⟨19, x.x.a, 0, 0, 0⟩ _ (by omega)).trans ?_
          rw [if_pos (enc_lui _ _ ha (by omega))]
        · rw [hst _ _ rfl rfl rfl]
          unfold standsP
          show ((match lookN x.name (allS l).names with | none => _ | some v => _) >>= _) = _
          rw [hv]
          show ((fitP ⟨16, x.x.a, x.x.a, 0, 0⟩ ((addrP (allS l) v % 65536 : Nat) : Int)) >>= _) = _
          rw [hnn]
          refine (enc_fit ⟨16, x.x.a, x.x.a, 0, 0⟩ _ (by omega)).trans ?_
          rw [if_pos (enc_ori _ _ ha (by omega))]
  by_cases h4 : x.kind = 4
  · have hw : wordsOfD x = 1 := by unfold wordsOfD; rw [if_pos (.inr h4)]
    rw [hw]
    unfold pc1 wordsD
    rw [if_neg h2, if_neg h3, if_pos h4, if_neg (c := (x.kind = 2 ∨ x.kind = 3) ∧ x.name ≠ []) (by omega)]
    simp only
    rw [if_neg h2, if_neg h3, if_pos h4, List.singleton_append, words_one]
    have e : encP (allS l) ⟨i + 1, ⟨0, 0, 0, 0, 0⟩, true, u32N x.n, false, [], 0⟩ k = .ok (u32N x.n) := rfl
    rw [e]
    simp only
    cases wordsP (allS l) (k + 1) rest <;> rfl
  · exact hz h2 h3 h4
theorem wordsD_len {l : List It} {x : It} {a : Nat} {w : List Nat} (h : wordsD l x a = .ok w) : w.length = wordsOfD x := by
  unfold wordsD at h
  split at h
  · cases h
  · by_cases h2 : x.kind = 2
    · rw [if_pos h2] at h
      unfold wordsOfD
      rw [if_pos (.inl h2)]
      split at h
      · cases h
      · split at h
        · cases h; rfl
        · cases h
    rw [if_neg h2] at h
    by_cases h3 : x.kind = 3
    · rw [if_pos h3] at h
      unfold wordsOfD
      rw [if_neg (by omega), if_pos h3]
      cases h; rfl
    rw [if_neg h3] at h
    by_cases h4 : x.kind = 4
    · rw [if_pos h4] at h
      unfold wordsOfD
      rw [if_pos (.inr h4)]
      cases h; rfl
    rw [if_neg h4] at h
    unfold wordsOfD
    rw [if_neg (by omega), if_neg h3]
    cases h; rfl
def enI : List It → Nat → Nat → Nat
  | [], _, en => en
  | x :: r, k, en => enI r (k + wordsOfD x) (if x.kind = 1 ∧ x.name = wStart then 4 * k else en)
theorem text_eq {l : List It} (h : AllOk l) : ∀ (r : List It) (i : Nat) (t : List Nat) (en : Nat), (∀ x ∈ r, ItOk x) → t.length + sumW r ≤ 9000 →
    textF l i t en r = match wordsP (allS l) t.length (pcsI i r) with
      | .error e => .error e
      | .ok w => .ok (t ++ w, enI r t.length en)
  | [], i, t, en, _, _ => by simp [textF, pcsI, wordsP, enI]
  | x :: r, i, t, en, hr, hb => by
    simp only [sumW] at hb
    rw [textF, pcsI, words_item h x (hr x (by simp)) i t.length (by omega)]
    cases hw : wordsD l x (4 * t.length) with
    | error e => rfl
    | ok w =>
      have hlen := wordsD_len hw
      simp only
      rw [text_eq h r (i + 1) (t ++ w) _ (fun y hy => hr y (List.mem_cons_of_mem _ hy)) (by simp; omega)]
      rw [List.length_append, hlen]
      cases wordsP (allS l) (t.length + wordsOfD x) (pcsI (i + 1) r) with
      | error e => rfl
      | ok q =>
        simp only [List.append_assoc]
        rfl
theorem en_none : ∀ (r : List It) (k : Nat) (en : Nat), (∀ x ∈ r, ¬ (x.gives = true ∧ x.name = wStart)) → enI r k en = en
  | [], _, _, _ => rfl
  | x :: r, k, en, h => by
    unfold enI
    rw [if_neg (fun e => h x (by simp) ⟨by simp [It.gives, e.1], e.2⟩)]
    exact en_none r _ _ fun y hy => h y (List.mem_cons_of_mem _ hy)
theorem en_eq : ∀ (r : List It) (k : Nat) (D : List UInt8) (j en : Nat), UniqI r → (∀ x ∈ r, ItOk x) →
    enI r k en = match lookN wStart (namesI r k D j) with | some v => if v.1 = 0 then 4 * v.2 else en | none => en
  | [], _, _, _, _, _, _ => rfl
  | x :: r, k, D, j, en, hu, hok => by
    have hx := hok x (by simp)
    have hur := List.pairwise_cons.1 hu
    have hr : ∀ y ∈ r, ItOk y := fun y hy => hok y (List.mem_cons_of_mem _ hy)
    rw [namesI, lookN_app]
    unfold enI nm1
    by_cases hg : x.gives = true ∧ x.name = wStart
    · have hn : ∀ y ∈ r, ¬ (y.gives = true ∧ y.name = wStart) := fun y hy e => hur.1 y hy ⟨hg.1, e.1, by rw [hg.2, e.2]⟩
      rw [en_none r _ _ hn, if_pos hg.1]
      simp only [lookN, hg.2, if_true, and_true]
      unfold plI
      by_cases h1 : x.kind = 1
      · simp [h1]
      · rw [if_neg h1, if_neg h1]
        (repeat' split) <;> simp_all
    · have e1 : ¬ (x.kind = 1 ∧ x.name = wStart) := fun e => hg ⟨by simp [It.gives, e.1], e.2⟩
      rw [if_neg e1]
      have ih := en_eq r (k + wordsOfD x) (da1 x D) (j + (rm1 x).length) en hur.2 hr
      rw [ih]
      cases hgv : x.gives with
      | false => rfl
      | true =>
        have hne : ¬ x.name = wStart := fun e => hg ⟨hgv, e⟩
        simp only [if_true, lookN, hne, if_false]
theorem rooms_none : ∀ (r : List It) (k : Nat) (D : List UInt8) (j : Nat), (∀ x ∈ r, ItOk x) → (namesI r k D j).any (fun p => p.2.1 == 2) = false → roomsI r = []
  | [], _, _, _, _, _ => rfl
  | x :: r, k, D, j, hok, h => by
    rw [namesI, List.any_append] at h
    simp only [Bool.or_eq_false_iff] at h
    have ih := rooms_none r _ _ _ (fun y hy => hok y (List.mem_cons_of_mem _ hy)) h.2
    show rm1 x ++ roomsI r = []
    rw [ih]
    unfold rm1
    by_cases h7 : x.kind = 7
    · have := h.1
      unfold nm1 It.gives plI at this
      simp [h7] at this
    · rw [if_neg h7]; rfl
theorem prog_eq {l : List It} (h : AllOk l) : progP (allS l) = match textF l 0 [] 0 l with | .error e => .error e | .ok (t, en) => .ok ⟨t, (dataD l).s, ((dataD l).e : Int) - ((dataD l).s.length : Int), en⟩ := by
  have hw := sumW_le l
  have hl := h.len
  rw [text_eq h l 0 [] 0 h.ok (by simp; omega)]
  unfold progP
  show (match wordsP (allS l) 0 (pcsI 0 l) with | .error e => _ | .ok w => _) = _
  rw [List.length_nil]
  cases wordsP (allS l) 0 (pcsI 0 l) with
  | error e => rfl
  | ok w =>
    simp only [List.nil_append]
    have e1 : (allS l).data = (dataD l).s := (dataD_s l).symm
    have e2 : entryN (allS l) = enI l 0 0 := by
      rw [en_eq l 0 [] 0 0 h.u h.ok]
      unfold entryN
      show (match lookN wStart (namesI l 0 [] 0) with | some v => _ | none => _) = _
      cases lookN wStart (namesI l 0 [] 0) with
      | none => rfl
      | some v =>
        simp only
        by_cases g : v.1 = 0
        · rw [if_pos g, if_pos g]
          unfold addrP
          rw [if_pos g]
        · rw [if_neg g, if_neg g]
    have hr := rooms_end (baseD l) (base_mod l) l 0 (dataI l []).length (atsI l [])
    have e3 : ((roomN (allS l) : Nat) : Int) = ((dataD l).e : Int) - ((dataD l).s.length : Int) := by
      rw [dataD_e, dataD_s]
      unfold roomN
      by_cases g : (allS l).names.any (fun p => p.2.1 == 2) = true
      · rw [if_pos g, behind_all]
        show (((startsP (baseD l + (dataI l []).length) (roomsI l)).2 - _ : Nat) : Int) = _
        rw [hr.1]
        omega
      · rw [if_neg g]
        have hn := rooms_none l 0 [] 0 h.ok (Bool.eq_false_iff.2 g)
        rw [hn] at hr
        have : baseD l + (dataI l []).length = baseD l + (roomsF l 0 (dataI l []).length (atsI l [])).2 := hr.1
        omega
    rw [e1, e2, e3]
/-- THE LAW: the program's assembler is the document's. -/
theorem mk_eq (text : List UInt8) : mkP text = mkD text := by
  unfold mkP mkD
  by_cases h1 : 65536 < text.length
  · rw [if_pos h1, if_pos h1]
  rw [if_neg h1, if_neg h1]
  have hL : linesN text = linesD text := linesN_eq text.length text (Nat.le_refl _)
  rw [hL]
  by_cases h2 : 400 < (linesD text).length
  · rw [if_pos h2, if_pos h2]
  rw [if_neg h2, if_neg h2]
  have h := lines_items (linesD text) 0 [] rfl (fun x hx => by cases hx) List.Pairwise.nil
  have e : stI [] 0 St.nil = St.nil := rfl
  rw [e] at h
  rw [h.1]
  cases hI : itemsF 0 [] (linesD text) with
  | error e => rfl
  | ok l =>
    have hok := h.2 l hI
    have hall : AllOk l := ⟨hok.1, by rw [hok.2.2]; omega, items_s 65536 _ _ _ _ hI (fun x hx => by cases hx) (fun s hs => by have := line_small text s hs; omega), hok.2.1⟩
    simp only
    have es : stI l 0 St.nil = allS l := by
      rw [stI_eq l 0 _ hok.1]
      rfl
    rw [es]
    exact prog_eq hall
end Go.Proofs.YtmmnkoeajdeldaaGreatDoor.Pl
namespace Go.Proofs.YtmmnkoeajdeldaaGreatDoor.Pl
open Go.RowKit
set_option linter.unusedVariables false
set_option linter.unusedSimpArgs false
theorem word_lt2 {x : Ins} (h : encE x = 0) : wordOf x < 4294967296 := by
  have ho := enc_opq h
  have hp := enc_partsq h
  unfold wordOf low
  omega
theorem encP_lt (S : St) (p : Pc) (i w : Nat) (hp : p.w < 4294967296) (h : encP S p i = .ok w) : w < 4294967296 := by
  have e : encP S p i = if p.raw = true then .ok p.w else ((if p.named = true then standsP S p i else .ok p.x.imm) >>= fun n => if encE { p.x with imm := n } = 0 then .ok (wordOf { p.x with imm := n }) else .error (encE { p.x with imm := n })) := by
    unfold encP
    cases p.raw
    · cases p.named <;> rfl
    · rfl
  rw [e] at h
  split at h
  · cases h; exact hp
  · cases hn : (if p.named = true then standsP S p i else .ok p.x.imm) with
    | error e => rw [hn] at h; cases h
    | ok n =>
      rw [hn] at h
      have h' : (if encE { p.x with imm := n } = 0 then Except.ok (wordOf { p.x with imm := n }) else Except.error (encE { p.x with imm := n })) = (Except.ok w : Except Nat Nat) := h
      split at h'
      · rename_i he
        cases h'
        exact word_lt2 he
      · cases h'
theorem wordsP_lt (S : St) : ∀ (ps : List Pc) (i : Nat) (l : List Nat), (∀ p ∈ ps, p.w < 4294967296) → wordsP S i ps = .ok l → (∀ w ∈ l, w < 4294967296) ∧ l.length = ps.length
  | [], i, l, _, h => by cases h; exact ⟨fun w hw => (by cases hw), rfl⟩
  | p :: r, i, l, hp, h => by
    rw [words_one] at h
    cases he : encP S p i with
    | error e => rw [he] at h; cases h
    | ok w =>
      rw [he] at h
      simp only at h
      cases hr : wordsP S (i + 1) r with
      | error e => rw [hr] at h; cases h
      | ok q =>
        rw [hr] at h
        cases h
        have ih := wordsP_lt S r (i + 1) q (fun y hy => hp y (List.mem_cons_of_mem _ hy)) hr
        refine ⟨fun z hz => ?_, by simp [ih.2]⟩
        rcases List.mem_cons.1 hz with e | hz
        · rw [e]; exact encP_lt S p i w (hp p (by simp)) he
        · exact ih.1 z hz
theorem pc1_w (ln : Nat) (x : It) : ∀ p ∈ pc1 ln x, p.w < 4294967296 := by
  intro p hp
  unfold pc1 at hp
  have hu := u32_le x.n
  split at hp
  · rw [List.mem_singleton] at hp
    rw [hp]; split <;> exact of_decide_eq_true rfl
  split at hp
  · split at hp
    · simp only [List.mem_cons, List.not_mem_nil, or_false] at hp
      rcases hp with rfl | rfl <;> exact of_decide_eq_true rfl
    · simp only [List.mem_cons, List.not_mem_nil, or_false] at hp
      rcases hp with rfl | rfl <;> exact of_decide_eq_true rfl
  split at hp
  · rw [List.mem_singleton] at hp
    rw [hp]; exact hu
  · cases hp
theorem pcsI_w : ∀ (l : List It) (i : Nat), ∀ p ∈ pcsI i l, p.w < 4294967296
  | [], i, p, hp => by cases hp
  | x :: r, i, p, hp => by
    rcases List.mem_append.1 hp with h | h
    · exact pc1_w _ x p h
    · exact pcsI_w r _ p h
theorem rooms_le : ∀ (r : List It) (i e : Nat) (A : List Nat), (∀ x ∈ r, ItOk x) → (roomsF r i e A).2 ≤ e + 65540 * r.length
  | [], i, e, A, _ => by simp [roomsF]
  | x :: r, i, e, A, h => by
    have hu := up4_ge e
    have hr : ∀ y ∈ r, ItOk y := fun y hy => h y (List.mem_cons_of_mem _ hy)
    unfold roomsF
    simp only [List.length_cons]
    split
    · rename_i h7
      have hn := (h x (by simp)).n0 h7
      have := rooms_le r (i + 1) (up e 4 + x.n.toNat) (A.set i (up e 4)) hr
      omega
    · have := rooms_le r (i + 1) e A hr
      omega
theorem enI_le : ∀ (r : List It) (k en M : Nat), en ≤ M → 4 * (k + sumW r) ≤ M → enI r k en ≤ M
  | [], k, en, M, h, _ => h
  | x :: r, k, en, M, h, hk => by
    unfold enI
    simp only [sumW] at hk
    refine enI_le r _ _ M ?_ (by omega)
    split
    · omega
    · exact h
/-- A program that a text makes. -/
structure MkOk (Y : Exe) : Prop where
  w : ∀ y ∈ Y.text, y < 4294967296
  t : Y.text.length ≤ 1000
  d : Y.data.length ≤ 100000000
  r0 : 0 ≤ Y.room
  r1 : Y.room ≤ 100000000
  e : Y.entry ≤ 10000
theorem mk_ok {t : List UInt8} {Y : Exe} (h : mkP t = .ok Y) : MkOk Y := by
  rw [mk_eq] at h
  unfold mkD at h
  split at h
  · cases h
  rename_i h1
  split at h
  · cases h
  rename_i h2
  cases hI : itemsF 0 [] (linesD t) with
  | error e => rw [hI] at h; cases h
  | ok l =>
    rw [hI] at h
    have hok := (lines_items (linesD t) 0 [] rfl (fun x hx => (by cases hx)) List.Pairwise.nil).2 l hI
    have hall : AllOk l := ⟨hok.1, by rw [hok.2.2]; omega, items_s 65536 _ _ _ _ hI (fun x hx => (by cases hx)) (fun s hs => by have := line_small t s hs; omega), hok.2.1⟩
    have hw := sumW_le l
    have hl := hall.len
    simp only at h
    rw [text_eq hall l 0 [] 0 hall.ok (by simp; omega)] at h
    cases hp : wordsP (allS l) 0 (pcsI 0 l) with
    | error e => rw [List.length_nil, hp] at h; cases h
    | ok q =>
      rw [List.length_nil, hp] at h
      simp only [List.nil_append] at h
      have hq := wordsP_lt _ _ _ _ (pcsI_w l 0) hp
      rw [sum_pcs] at hq
      have hd := dataI_len l [] hall.s
      simp only [List.length_nil, Nat.zero_add] at hd
      have hr := rooms_le l 0 (dataI l []).length (atsI l []) hall.ok
      have hr2 := (rooms_end 0 (by rfl) l 0 (dataI l []).length (atsI l [])).2
      have hen := enI_le l 0 0 4000 (by omega) (by omega)
      cases h
      exact ⟨hq.1, by show q.length ≤ _; rw [hq.2]; omega, by show (dataD l).s.length ≤ _; rw [dataD_s]; omega, by show 0 ≤ ((dataD l).e : Int) - ((dataD l).s.length : Int); rw [dataD_s, dataD_e]; omega, by show ((dataD l).e : Int) - ((dataD l).s.length : Int) ≤ _; rw [dataD_s, dataD_e]; omega, by show enI l 0 0 ≤ _; omega⟩
end Go.Proofs.YtmmnkoeajdeldaaGreatDoor.Pl
