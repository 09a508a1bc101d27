/- Plain Lean: what a line is, in the document's way, is what the program takes it in as. No program in sight. -/
import Derived.Test.YtmmnkoeajdeldaaGreatDoorAsEq1
namespace Go.Proofs.YtmmnkoeajdeldaaGreatDoor.Pl
open Go.RowKit
open Go.Lib (itoa)
set_option linter.unusedVariables false
set_option linter.unusedSimpArgs false
theorem kd_inj {a b : Nat} (ha : a < 7) (hb : b < 7) (h : kd a = kd b) : a = b := by
  have : ∀ a b : Fin 7, kd a.val = kd b.val → a = b := by decide
  have := this ⟨a, ha⟩ ⟨b, hb⟩ h
  injection this
theorem TksR.dk_iff : ∀ {a : List Tk} {b : List Dt} (h : TksR a b) (p : List Nat) (hp : ∀ q ∈ p, q < 7), dk b = p.map kd ↔ a.map Tk.k = p
  | [], [], _, [], _ => by simp [dk]
  | [], [], _, _ :: _, _ => by simp [dk]
  | _ :: _, _ :: _, _, [], _ => by simp [dk]
  | t :: a, d :: b, h, q :: p, hp => by
    have ih := TksR.dk_iff h.2 p (fun x hx => hp x (List.mem_cons_of_mem _ hx))
    simp only [dk, List.map_cons, List.cons.injEq] at ih ⊢
    rw [h.1.k, ih]
    exact ⟨fun g => ⟨kd_inj h.1.lt (hp q (List.mem_cons_self ..)) g.1, g.2⟩, fun g => ⟨by rw [g.1], g.2⟩⟩
  | [], _ :: _, h, _, _ => h.elim
  | _ :: _, [], h, _, _ => h.elim

/-- A form: 8 a register, 9 a number or a name, else a token of that kind. -/
def tkOk (p : Nat) (t : Tk) : Bool := if p = 8 then t.k == 0 && (regN t.s).isSome else if p = 9 then t.k == 0 || t.k == 1 else t.k == p
def okP : List Nat → List Tk → Bool
  | [], l => l.isEmpty
  | _ :: _, [] => false
  | p :: ps, t :: l => tkOk p t && okP ps l
def tz : Tk := ⟨0, [], 0⟩
def tg (l : List Tk) (i : Nat) : Tk := l.getD i tz
def rg (l : List Tk) (i : Nat) : Nat := (regN (tg l i).s).getD 0
theorem wantP_yes {k : Nat} {t : Tk} {r : List Tk} (h : t.k = k) : wantP k (t :: r) = .ok (t, r) := if_pos h
theorem wantP_no {k : Nat} {t : Tk} {r : List Tk} (h : ¬ t.k = k) : wantP k (t :: r) = .error 3 := if_neg h
theorem regP_yes {t : Tk} {r : List Tk} {i : Nat} (h : t.k = 0) (hi : regN t.s = some i) : regP (t :: r) = .ok (i, r) := by
  unfold regP
  rw [wantP_yes h]
  show (match regN t.s with | some i => Except.ok (i, r) | none => .error 3) = _
  rw [hi]
theorem regP_bad {t : Tk} {r : List Tk} (h : t.k = 0) (hi : regN t.s = none) : regP (t :: r) = .error 3 := by
  unfold regP
  rw [wantP_yes h]
  show (match regN t.s with | some i => Except.ok (i, r) | none => .error 3) = _
  rw [hi]
theorem regP_no {t : Tk} {r : List Tk} (h : ¬ t.k = 0) : regP (t :: r) = .error 3 := by
  unfold regP
  rw [wantP_no h]
  rfl
theorem okP_cons (p : Nat) (ps : List Nat) (t : Tk) (l : List Tk) : okP (p :: ps) (t :: l) = (tkOk p t && okP ps l) := rfl
theorem tkOk_lt {p : Nat} (t : Tk) (h : p < 8) : tkOk p t = (t.k == p) := by
  unfold tkOk
  rw [if_neg (by omega), if_neg (by omega)]
theorem rg_hd {t : Tk} {r : List Tk} {i : Nat} (h : regN t.s = some i) : rg (t :: r) 0 = i := by unfold rg tg; simp [h]
section
variable {α : Type}
theorem want_chain (k : Nat) (hk : k < 8) (F : Tk × List Tk → Except Nat α) (ps : List Nat) (G : List Tk → Except Nat α) (H : ∀ t r, t.k = k → F (t, r) = if okP ps r = true then G (t :: r) else .error 3) (l : List Tk) :
    (wantP k l >>= F) = if okP (k :: ps) l = true then G l else .error 3 := by
  cases l with
  | nil => rfl
  | cons t r =>
    rw [okP_cons, tkOk_lt t hk]
    by_cases h : t.k = k
    · rw [wantP_yes h]
      show F (t, r) = _
      rw [H t r h]
      simp [h]
    · rw [wantP_no h]
      have : (t.k == k) = false := by simpa using h
      rw [this]
      rfl
theorem reg_chain (F : Nat × List Tk → Except Nat α) (ps : List Nat) (G : List Tk → Except Nat α) (H : ∀ t r i, t.k = 0 → regN t.s = some i → F (i, r) = if okP ps r = true then G (t :: r) else .error 3) (l : List Tk) :
    (regP l >>= F) = if okP (8 :: ps) l = true then G l else .error 3 := by
  cases l with
  | nil => rfl
  | cons t r =>
    rw [okP_cons, show tkOk 8 t = (t.k == 0 && (regN t.s).isSome) from rfl]
    by_cases h : t.k = 0
    · cases hR : regN t.s with
      | none =>
        rw [regP_bad h hR]
        simp
        rfl
      | some i =>
        rw [regP_yes h hR]
        show F (i, r) = _
        rw [H t r i h hR]
        simp [h]
    · rw [regP_no h]
      have : (t.k == 0) = false := by simpa using h
      rw [this]
      rfl
theorem val_chain (F : Tk × List Tk → Except Nat α) (ps : List Nat) (G : List Tk → Except Nat α) (H : ∀ t r, t.k = 0 ∨ t.k = 1 → F (t, r) = if okP ps r = true then G (t :: r) else .error 3) (l : List Tk) :
    (valP l >>= F) = if okP (9 :: ps) l = true then G l else .error 3 := by
  cases l with
  | nil => rfl
  | cons t r =>
    rw [okP_cons, show tkOk 9 t = (t.k == 0 || t.k == 1) from rfl]
    unfold valP
    by_cases h : t.k = 0
    · simp only [if_pos h]
      show F (t, r) = _
      rw [H t r (.inl h)]
      simp [h]
    · simp only [if_neg h]
      by_cases h1 : t.k = 1
      · rw [wantP_yes h1]
        show F (t, r) = _
        rw [H t r (.inr h1)]
        simp [h1]
      · rw [wantP_no h1]
        have : (t.k == 0 || t.k == 1) = false := by simp [h, h1]
        rw [this]
        rfl
theorem end_chain (F : Unit → Except Nat α) (G : List Tk → Except Nat α) (l : List Tk) (H : F () = G l) : (endP l >>= F) = if okP [] l = true then G l else .error 3 := by
  unfold endP okP
  cases l with
  | nil => exact H
  | cons t r => rfl
end
theorem liP_eq (ln : Nat) (l : List Tk) (S : St) : liP ln l S = if okP [8, 2, 1] l = true then (inP (tg l 2).n (-2147483648) 4294967295 >>= fun _ => .ok (addP (pcI ln ⟨16, rg l 0, rg l 0, 0, (u32N (tg l 2).n % 65536 : Nat)⟩) (addP (pcI ln ⟨19, rg l 0, 0, 0, (u32N (tg l 2).n / 65536 : Nat)⟩) S))) else .error 3 := by
  unfold liP
  refine reg_chain _ _ (fun l => inP (tg l 2).n (-2147483648) 4294967295 >>= fun _ => .ok (addP (pcI ln ⟨16, rg l 0, rg l 0, 0, (u32N (tg l 2).n % 65536 : Nat)⟩) (addP (pcI ln ⟨19, rg l 0, 0, 0, (u32N (tg l 2).n / 65536 : Nat)⟩) S))) (fun t r i h0 hi => ?_) l
  simp only [rg_hd hi]
  refine want_chain 2 (by decide) _ [1] (fun r => (inP (tg r 1).n (-2147483648) 4294967295 >>= fun _ => .ok (addP (pcI ln ⟨16, i, i, 0, (u32N (tg r 1).n % 65536 : Nat)⟩) (addP (pcI ln ⟨19, i, 0, 0, (u32N (tg r 1).n / 65536 : Nat)⟩) S)))) (fun t2 r2 h2 => ?_) r
  refine want_chain 1 (by decide) _ [] (fun r => (inP (tg r 0).n (-2147483648) 4294967295 >>= fun _ => .ok (addP (pcI ln ⟨16, i, i, 0, (u32N (tg r 0).n % 65536 : Nat)⟩) (addP (pcI ln ⟨19, i, 0, 0, (u32N (tg r 0).n / 65536 : Nat)⟩) S)))) (fun t3 r3 h3 => ?_) r2
  exact end_chain _ (fun _ => _) r3 rfl
theorem laP_eq (ln : Nat) (l : List Tk) (S : St) : laP ln l S = if okP [8, 2, 0] l = true then .ok (addP (pcN ln ⟨16, rg l 0, rg l 0, 0, 0⟩ (tg l 2).s 2) (addP (pcN ln ⟨19, rg l 0, 0, 0, 0⟩ (tg l 2).s 1) S)) else .error 3 := by
  unfold laP
  refine reg_chain _ _ (fun l => .ok (addP (pcN ln ⟨16, rg l 0, rg l 0, 0, 0⟩ (tg l 2).s 2) (addP (pcN ln ⟨19, rg l 0, 0, 0, 0⟩ (tg l 2).s 1) S))) (fun t r i h0 hi => ?_) l
  simp only [rg_hd hi]
  refine want_chain 2 (by decide) _ [0] (fun r => .ok (addP (pcN ln ⟨16, i, i, 0, 0⟩ (tg r 1).s 2) (addP (pcN ln ⟨19, i, 0, 0, 0⟩ (tg r 1).s 1) S))) (fun t2 r2 h2 => ?_) r
  refine want_chain 0 (by decide) _ [] (fun r => .ok (addP (pcN ln ⟨16, i, i, 0, 0⟩ (tg r 0).s 2) (addP (pcN ln ⟨19, i, 0, 0, 0⟩ (tg r 0).s 1) S))) (fun t3 r3 h3 => ?_) r2
  exact end_chain _ (fun _ => _) r3 rfl
theorem rawP_eq (ln : Nat) (l : List Tk) (S : St) : rawP ln l S = if okP [1] l = true then (inP (tg l 0).n 0 4294967295 >>= fun _ => .ok (addP ⟨ln, ⟨0, 0, 0, 0, 0⟩, true, u32N (tg l 0).n, false, [], 0⟩ S)) else .error 3 := by
  unfold rawP
  refine want_chain 1 (by decide) _ _ (fun r => (inP (tg r 0).n 0 4294967295 >>= fun _ => .ok (addP ⟨ln, ⟨0, 0, 0, 0, 0⟩, true, u32N (tg r 0).n, false, [], 0⟩ S))) (fun t r h => ?_) l
  exact end_chain _ (fun _ => _) r rfl
theorem textP_eq (l : List Tk) (S : St) : textP l S = if okP [0, 6] l = true then (nameP (tg l 0).s 1 S.data.length S >>= fun S1 => .ok { S1 with data := S.data ++ (tg l 1).s }) else .error 3 := by
  unfold textP
  refine want_chain 0 (by decide) _ _ (fun l => (nameP (tg l 0).s 1 S.data.length S >>= fun S1 => .ok { S1 with data := S.data ++ (tg l 1).s })) (fun t r h => ?_) l
  refine want_chain 6 (by decide) _ _ (fun l => (nameP t.s 1 S.data.length S >>= fun S1 => .ok { S1 with data := S.data ++ (tg l 0).s })) (fun t2 r2 h2 => ?_) r
  exact end_chain _ (fun _ => _) r2 rfl
theorem word_eq (l : List Tk) (S : St) : wordP4 l S = if okP [0, 1] l = true then (inP (tg l 1).n (-2147483648) 4294967295 >>= fun _ => nameP (tg l 0).s 1 (up S.data.length 4) S >>= fun S1 => .ok { S1 with data := S.data ++ List.replicate (up S.data.length 4 - S.data.length) 0 ++ putB (u32N (tg l 1).n) 4 }) else .error 3 := by
  unfold wordP4
  refine want_chain 0 (by decide) _ _ (fun l => (inP (tg l 1).n (-2147483648) 4294967295 >>= fun _ => nameP (tg l 0).s 1 (up S.data.length 4) S >>= fun S1 => .ok { S1 with data := S.data ++ List.replicate (up S.data.length 4 - S.data.length) 0 ++ putB (u32N (tg l 1).n) 4 })) (fun t r h => ?_) l
  refine want_chain 1 (by decide) _ _ (fun l => (inP (tg l 0).n (-2147483648) 4294967295 >>= fun _ => nameP t.s 1 (up S.data.length 4) S >>= fun S1 => .ok { S1 with data := S.data ++ List.replicate (up S.data.length 4 - S.data.length) 0 ++ putB (u32N (tg l 0).n) 4 })) (fun t2 r2 h2 => ?_) r
  exact end_chain _ (fun _ => _) r2 rfl
theorem room_eq (l : List Tk) (S : St) : roomP l S = if okP [0, 1] l = true then (inP (tg l 1).n 0 65536 >>= fun _ => nameP (tg l 0).s 2 S.rooms.length S >>= fun S1 => .ok { S1 with rooms := S.rooms ++ [(tg l 1).n.toNat] }) else .error 3 := by
  unfold roomP
  refine want_chain 0 (by decide) _ _ (fun l => (inP (tg l 1).n 0 65536 >>= fun _ => nameP (tg l 0).s 2 S.rooms.length S >>= fun S1 => .ok { S1 with rooms := S.rooms ++ [(tg l 1).n.toNat] })) (fun t r h => ?_) l
  refine want_chain 1 (by decide) _ _ (fun l => (inP (tg l 0).n 0 65536 >>= fun _ => nameP t.s 2 S.rooms.length S >>= fun S1 => .ok { S1 with rooms := S.rooms ++ [(tg l 0).n.toNat] })) (fun t2 r2 h2 => ?_) r
  exact end_chain _ (fun _ => _) r2 rfl
/-- What is asked of an instruction's tokens, by its form. -/
def patI (f : Nat) : List Nat := if f = 1 then [8, 2, 8, 2, 8] else if f = 2 then [8, 2, 8, 2, 9] else if f = 3 then [8, 2, 9] else if f = 4 then [8, 2, 9, 4, 8, 5] else [9]
def insI (op f : Nat) (l : List Tk) : Ins × Tk :=
  if f = 1 then (⟨op, rg l 0, rg l 2, rg l 4, 0⟩, ⟨1, [], 0⟩) else if f = 2 then (⟨op, rg l 0, rg l 2, 0, 0⟩, tg l 4)
  else if f = 3 then (⟨op, rg l 0, 0, 0, 0⟩, tg l 2) else if f = 4 then (⟨op, rg l 0, rg l 4, 0, 0⟩, tg l 2) else (⟨op, 0, 0, 0, 0⟩, tg l 0)
def finI (ln op : Nat) (S : St) (y : Ins × Tk) : Except Nat St :=
  if y.2.k = 0 then .ok (addP (pcN ln y.1 y.2.s (if 25 ≤ op ∧ op ≤ 29 then 3 else 0)) S)
  else (fitP y.1 y.2.n >>= fun n => .ok (addP (pcI ln { y.1 with imm := n }) S))
theorem insP_eq (ln op : Nat) (l : List Tk) (S : St) (h1 : 1 ≤ op) (h2 : op ≤ 31) : insP ln op l S = if okP (patI (formN op)) l = true then finI ln op S (insI op (formN op) l) else .error 3 := by
  have hf : insP ln op l S = (bodyP op l >>= fun y => (endP y.2.2 >>= fun _ => finI ln op S (y.1, y.2.1))) := rfl
  rw [hf]
  unfold bodyP
  by_cases f1 : op ≤ 13
  · have hF : formN op = 1 := by unfold formN; rw [if_pos ⟨h1, f1⟩]
    rw [hF, if_neg (by omega)]
    simp only [bind_assoc, if_pos f1]
    refine reg_chain _ _ (fun l => finI ln op S (insI op 1 l)) (fun t r i h0 hi => ?_) l
    simp only [insI, patI, if_pos rfl, rg_hd hi]
    refine want_chain 2 (by decide) _ _ (fun r => finI ln op S (⟨op, i, rg r 1, rg r 3, 0⟩, ⟨1, [], 0⟩)) (fun t2 r2 h2 => ?_) r
    refine reg_chain _ _ (fun r => finI ln op S (⟨op, i, rg r 0, rg r 2, 0⟩, ⟨1, [], 0⟩)) (fun t3 r3 i3 h3 hi3 => ?_) r2
    simp only [rg_hd hi3]
    refine want_chain 2 (by decide) _ _ (fun r => finI ln op S (⟨op, i, i3, rg r 1, 0⟩, ⟨1, [], 0⟩)) (fun t4 r4 h4 => ?_) r3
    refine reg_chain _ _ (fun r => finI ln op S (⟨op, i, i3, rg r 0, 0⟩, ⟨1, [], 0⟩)) (fun t5 r5 i5 h5 hi5 => ?_) r4
    simp only [rg_hd hi5]
    exact end_chain _ (fun _ => _) r5 rfl
  by_cases f4 : 20 ≤ op ∧ op ≤ 24 ∨ op = 30
  · have hF : formN op = 4 := by unfold formN; rw [if_neg (by omega), if_neg (by omega), if_neg (by omega), if_pos f4]
    rw [hF, if_neg (by omega)]
    simp only [bind_assoc, if_neg f1, if_pos f4]
    refine reg_chain _ _ (fun l => finI ln op S (insI op 4 l)) (fun t r i h0 hi => ?_) l
    simp only [insI, patI, rg_hd hi]
    refine want_chain 2 (by decide) _ _ (fun r => finI ln op S (⟨op, i, rg r 3, 0, 0⟩, tg r 1)) (fun t2 r2 h2 => ?_) r
    refine val_chain _ _ (fun r => finI ln op S (⟨op, i, rg r 2, 0, 0⟩, tg r 0)) (fun t3 r3 h3 => ?_) r2
    refine want_chain 4 (by decide) _ _ (fun r => finI ln op S (⟨op, i, rg r 1, 0, 0⟩, t3)) (fun t4 r4 h4 => ?_) r3
    refine reg_chain _ _ (fun r => finI ln op S (⟨op, i, rg r 0, 0, 0⟩, t3)) (fun t5 r5 i5 h5 hi5 => ?_) r4
    simp only [rg_hd hi5]
    refine want_chain 5 (by decide) _ _ (fun r => finI ln op S (⟨op, i, i5, 0, 0⟩, t3)) (fun t6 r6 h6 => ?_) r5
    exact end_chain _ (fun _ => _) r6 rfl
  by_cases f31 : op = 31
  · subst f31
    simp only [if_pos rfl, if_neg f1, if_neg f4]
    simp only [or_true, if_true]
    show ((Except.ok (0, l) >>= fun x => ((valP x.2 >>= fun y => Except.ok ((⟨31, x.1, 0, 0, 0⟩ : Ins), y.1, y.2)))) >>= _) = _
    show ((valP l >>= fun y => Except.ok ((⟨31, 0, 0, 0, 0⟩ : Ins), y.1, y.2)) >>= _) = _
    simp only [bind_assoc]
    refine val_chain _ [] (fun r => finI ln 31 S (⟨31, 0, 0, 0, 0⟩, tg r 0)) (fun t3 r3 h3 => ?_) l
    exact end_chain _ (fun _ => _) r3 rfl
  by_cases f3 : op = 19 ∨ op = 29
  · have hF : formN op = 3 := by unfold formN; rw [if_neg (by omega), if_neg (by omega), if_pos f3]
    have f3' : op = 19 ∨ op = 29 ∨ op = 31 := by omega
    rw [hF, if_neg f31]
    simp only [bind_assoc, if_neg f1, if_neg f4, if_pos f3']
    refine reg_chain _ _ (fun l => finI ln op S (insI op 3 l)) (fun t r i h0 hi => ?_) l
    simp only [insI, patI, rg_hd hi]
    refine want_chain 2 (by decide) _ _ (fun r => finI ln op S (⟨op, i, 0, 0, 0⟩, tg r 1)) (fun t2 r2 h2 => ?_) r
    refine val_chain _ _ (fun r => finI ln op S (⟨op, i, 0, 0, 0⟩, tg r 0)) (fun t3 r3 h3 => ?_) r2
    exact end_chain _ (fun _ => _) r3 rfl
  · have hF : formN op = 2 := by unfold formN; rw [if_neg (by omega), if_pos (by omega)]
    have f3' : ¬ (op = 19 ∨ op = 29 ∨ op = 31) := by omega
    rw [hF, if_neg f31]
    simp only [bind_assoc, if_neg f1, if_neg f4, if_neg f3']
    refine reg_chain _ _ (fun l => finI ln op S (insI op 2 l)) (fun t r i h0 hi => ?_) l
    simp only [insI, patI, rg_hd hi]
    refine want_chain 2 (by decide) _ _ (fun r => finI ln op S (⟨op, i, rg r 1, 0, 0⟩, tg r 3)) (fun t2 r2 h2 => ?_) r
    refine reg_chain _ _ (fun r => finI ln op S (⟨op, i, rg r 0, 0, 0⟩, tg r 2)) (fun t3 r3 i3 h3 hi3 => ?_) r2
    simp only [rg_hd hi3]
    refine want_chain 2 (by decide) _ _ (fun r => finI ln op S (⟨op, i, i3, 0, 0⟩, tg r 1)) (fun t4 r4 h4 => ?_) r3
    refine val_chain _ _ (fun r => finI ln op S (⟨op, i, i3, 0, 0⟩, tg r 0)) (fun t5 r5 h5 => ?_) r4
    exact end_chain _ (fun _ => _) r5 rfl
theorem insP_1 (ln op : Nat) (l : List Tk) (S : St) (h : op ≤ 13) : insP ln op l S = (do let (a, l) ← regP l; let (_, l) ← wantP 2 l; let (b, l) ← regP l; let (_, l) ← wantP 2 l; let (c, l) ← regP l; endP l; finI ln op S (⟨op, a, b, c, 0⟩, ⟨1, [], 0⟩)) := by
  have hf : insP ln op l S = (bodyP op l >>= fun y => (endP y.2.2 >>= fun _ => finI ln op S (y.1, y.2.1))) := rfl
  rw [hf]
  unfold bodyP
  rw [if_neg (by omega)]
  simp only [bind_assoc, if_pos h]
  rfl
theorem insP_2 (ln op : Nat) (l : List Tk) (S : St) (h1 : ¬ op ≤ 13) (h4 : ¬ (20 ≤ op ∧ op ≤ 24 ∨ op = 30)) (h3 : ¬ (op = 19 ∨ op = 29 ∨ op = 31)) : insP ln op l S = (do let (a, l) ← regP l; let (_, l) ← wantP 2 l; let (b, l) ← regP l; let (_, l) ← wantP 2 l; let (t, l) ← valP l; endP l; finI ln op S (⟨op, a, b, 0, 0⟩, t)) := by
  have hf : insP ln op l S = (bodyP op l >>= fun y => (endP y.2.2 >>= fun _ => finI ln op S (y.1, y.2.1))) := rfl
  rw [hf]
  unfold bodyP
  rw [if_neg (by omega)]
  simp only [bind_assoc, if_neg h1, if_neg h4, if_neg h3]
  rfl
theorem insP_3 (ln op : Nat) (l : List Tk) (S : St) (h : op = 19 ∨ op = 29) : insP ln op l S = (do let (a, l) ← regP l; let (_, l) ← wantP 2 l; let (t, l) ← valP l; endP l; finI ln op S (⟨op, a, 0, 0, 0⟩, t)) := by
  have hf : insP ln op l S = (bodyP op l >>= fun y => (endP y.2.2 >>= fun _ => finI ln op S (y.1, y.2.1))) := rfl
  rw [hf]
  unfold bodyP
  have h1 : ¬ op ≤ 13 := by omega
  have h4 : ¬ (20 ≤ op ∧ op ≤ 24 ∨ op = 30) := by omega
  have h3 : op = 19 ∨ op = 29 ∨ op = 31 := by omega
  rw [if_neg (by omega)]
  simp only [bind_assoc, if_neg h1, if_neg h4, if_pos h3]
  rfl
theorem insP_4 (ln op : Nat) (l : List Tk) (S : St) (h : 20 ≤ op ∧ op ≤ 24 ∨ op = 30) : insP ln op l S = (do let (a, l) ← regP l; let (_, l) ← wantP 2 l; let (t, l) ← valP l; let (_, l) ← wantP 4 l; let (b, l) ← regP l; let (_, l) ← wantP 5 l; endP l; finI ln op S (⟨op, a, b, 0, 0⟩, t)) := by
  have hf : insP ln op l S = (bodyP op l >>= fun y => (endP y.2.2 >>= fun _ => finI ln op S (y.1, y.2.1))) := rfl
  rw [hf]
  unfold bodyP
  have h1 : ¬ op ≤ 13 := by omega
  rw [if_neg (by omega)]
  simp only [bind_assoc, if_neg h1, if_pos h]
  rfl
theorem insP_5 (ln op : Nat) (l : List Tk) (S : St) (h : op = 31) : insP ln op l S = (do let (t, l) ← valP l; endP l; finI ln op S (⟨op, 0, 0, 0, 0⟩, t)) := by
  have hf : insP ln op l S = (bodyP op l >>= fun y => (endP y.2.2 >>= fun _ => finI ln op S (y.1, y.2.1))) := rfl
  rw [hf]
  unfold bodyP
  have h1 : ¬ op ≤ 13 := by omega
  have h4 : ¬ (20 ≤ op ∧ op ≤ 24 ∨ op = 30) := by omega
  have h3 : op = 19 ∨ op = 29 ∨ op = 31 := by omega
  simp only [if_pos h, if_neg h1, if_neg h4, if_pos h3]
  show ((valP l >>= fun y => Except.ok ((⟨op, 0, 0, 0, 0⟩ : Ins), y.1, y.2)) >>= _) = _
  simp only [bind_assoc]
  rfl
end Go.Proofs.YtmmnkoeajdeldaaGreatDoor.Pl
