/- The assembler's signs: digits, letters, marks, numbers of a sign of 16. The assembler's signs: the number of a sign of 16; a sign of a word; how many signs are so. The assembler's span: how many signs, from a place on, are as a function says. The assembler's escapes. -/
import Derived.Test.YtmmnkoeajdeldaaGreatDoorAsW4
namespace Go.Proofs.YtmmnkoeajdeldaaGreatDoor
open Go.RowKit Go.Maps Go.WideMaps
set_option linter.unusedVariables false
set_option linter.unusedSimpArgs false
attribute [local go_sem] ba_get ba_cut ba_add fld_k fld_s fld_n
set_option maxRecDepth 100000 in
theorem digit_any (c : UInt8) (w : World) : Calls Tryz.prog 103 #[.int .u8 (c.toNat : Int)] w (Ret (.bool (Pl.digB c)) w) := by
  unfold Pl.digB
  have hc := c.toNat_lt
  obtain ⟨x, hx⟩ : ∃ x, c.toNat = x := ⟨_, rfl⟩
  rw [hx] at hc ⊢
  clear hx
  go_enter Tryz.func103, Tryz.ntmps103
  go_wp2_with fail
  all_goals go_ret
  all_goals
    refine ⟨?_, rfl⟩
    show Ending.returned (Value.bool _) = Ending.returned (Value.bool _)
    congr 2
    rw [Bool.eq_iff_iff]
    simp
    omega
set_option maxRecDepth 100000 in
theorem letter_any (c : UInt8) (w : World) : Calls Tryz.prog 100 #[.int .u8 (c.toNat : Int)] w (Ret (.bool (Pl.letB c)) w) := by
  unfold Pl.letB
  have hc := c.toNat_lt
  obtain ⟨x, hx⟩ : ∃ x, c.toNat = x := ⟨_, rfl⟩
  rw [hx] at hc ⊢
  clear hx
  go_enter Tryz.func100, Tryz.ntmps100
  go_wp2_with fail
  all_goals go_ret
  all_goals
    refine ⟨?_, rfl⟩
    show Ending.returned (Value.bool _) = Ending.returned (Value.bool _)
    congr 2
    rw [Bool.eq_iff_iff]
    simp
    omega
def markV (o : Option Nat) : Value := match o with | some k => .tuple #[.int .i64 (k : Int), .bool true] | none => .tuple #[.int .i64 0, .bool false]
set_option maxRecDepth 100000 in
theorem mark_any (c : UInt8) (w : World) : Calls Tryz.prog 99 #[.int .u8 (c.toNat : Int)] w (Ret (markV (Pl.markN c)) w) := by
  unfold Pl.markN
  have hc := c.toNat_lt
  obtain ⟨x, hx⟩ : ∃ x, c.toNat = x := ⟨_, rfl⟩
  rw [hx] at hc ⊢
  clear hx
  by_cases h0 : x = 44
  · subst h0
    rw [if_pos rfl]
    go_enter Tryz.func99, Tryz.ntmps99
    go_wp2_with fail
    refine bodyPost_ret (v := .tuple #[.int .i64 2, .bool true]) ?_ rfl ⟨rfl, rfl⟩
    simp [results, Tryz.results99, go_sem]
  rw [if_neg h0]
  have e0 : ((x : Int) == 44) = false := by simp; omega
  by_cases h1 : x = 58
  · subst h1
    rw [if_pos rfl]
    go_enter Tryz.func99, Tryz.ntmps99
    go_wp2_with fail
    refine bodyPost_ret (v := .tuple #[.int .i64 3, .bool true]) ?_ rfl ⟨rfl, rfl⟩
    simp [results, Tryz.results99, go_sem]
  rw [if_neg h1]
  have e1 : ((x : Int) == 58) = false := by simp; omega
  by_cases h2 : x = 40
  · subst h2
    rw [if_pos rfl]
    go_enter Tryz.func99, Tryz.ntmps99
    go_wp2_with fail
    refine bodyPost_ret (v := .tuple #[.int .i64 4, .bool true]) ?_ rfl ⟨rfl, rfl⟩
    simp [results, Tryz.results99, go_sem]
  rw [if_neg h2]
  have e2 : ((x : Int) == 40) = false := by simp; omega
  by_cases h3 : x = 41
  · subst h3
    rw [if_pos rfl]
    go_enter Tryz.func99, Tryz.ntmps99
    go_wp2_with fail
    refine bodyPost_ret (v := .tuple #[.int .i64 5, .bool true]) ?_ rfl ⟨rfl, rfl⟩
    simp [results, Tryz.results99, go_sem]
  rw [if_neg h3]
  have e3 : ((x : Int) == 41) = false := by simp; omega
  go_enter Tryz.func99, Tryz.ntmps99
  go_wp2_with fail
  refine bodyPost_ret (v := .tuple #[.int .i64 0, .bool false]) ?_ rfl ⟨rfl, rfl⟩
  simp [results, Tryz.results99, go_sem]
end Go.Proofs.YtmmnkoeajdeldaaGreatDoor
namespace Go.Proofs.YtmmnkoeajdeldaaGreatDoor
open Go.RowKit Go.Maps Go.WideMaps
set_option linter.unusedVariables false
set_option linter.unusedSimpArgs false
attribute [local go_sem] ba_get ba_cut ba_add fld_k fld_s fld_n
def hexV (o : Option Nat) : Value := match o with | some k => .tuple #[.int .u8 (k : Int), .bool true] | none => .tuple #[.int .u8 0, .bool false]
set_option maxRecDepth 100000 in
theorem hex_any (c : UInt8) (w : World) : Calls Tryz.prog 158 #[.int .u8 (c.toNat : Int)] w (Ret (hexV (Pl.hexN c)) w) := by
  have hd := digit_any c w
  unfold Pl.hexN
  have hdb : Pl.digB c = decide (48 ≤ c.toNat ∧ c.toNat ≤ 57) := rfl
  have hc := c.toNat_lt
  obtain ⟨D, hD⟩ : ∃ D, Pl.digB c = D := ⟨_, rfl⟩
  rw [hD] at hd hdb ⊢
  obtain ⟨x, hx⟩ : ∃ x, c.toNat = x := ⟨_, rfl⟩
  rw [hx] at hc hd hdb ⊢
  clear hx hD
  have HD := Lib.hid hd
  cases D with
  | true =>
    have hr : 48 ≤ x ∧ x ≤ 57 := by simpa using hdb.symm
    obtain ⟨h1, h2⟩ := hr
    clear hdb hd
    go_enter Tryz.func158, Tryz.ntmps158
    go_wp2_with fail
    (with_reducible refine HD.out.mono ?_)
    rintro e w1 ⟨rfl, rfl⟩
    go_wp2_with fail
    refine bodyPost_ret (v := .tuple #[.int .u8 ((x - 48 : Nat) : Int), .bool true]) ?_ rfl ⟨rfl, rfl⟩
    simp [results, Tryz.results158, go_sem]
    omega
  | false =>
    have hr : ¬ (48 ≤ x ∧ x ≤ 57) := by simpa using hdb.symm
    rw [if_neg (by simp)]
    clear hdb hd
    by_cases h1 : 97 ≤ x ∧ x ≤ 102
    · rw [if_pos h1]
      obtain ⟨h1, h2⟩ := h1
      go_enter Tryz.func158, Tryz.ntmps158
      go_wp2_with fail
      (with_reducible refine HD.out.mono ?_)
      rintro e w1 ⟨rfl, rfl⟩
      go_wp2_with fail
      refine bodyPost_ret (v := .tuple #[.int .u8 ((x - 87 : Nat) : Int), .bool true]) ?_ rfl ⟨rfl, rfl⟩
      simp [results, Tryz.results158, go_sem]
      omega
    · rw [if_neg h1]
      go_enter Tryz.func158, Tryz.ntmps158
      go_wp2_with fail
      (with_reducible refine HD.out.mono ?_)
      rintro e w1 ⟨rfl, rfl⟩
      go_wp2_with fail
      all_goals try (exfalso; omega)
      all_goals refine bodyPost_ret (v := .tuple #[.int .u8 0, .bool false]) ?_ rfl ⟨rfl, rfl⟩
      all_goals simp [results, Tryz.results158, go_sem]
set_option maxRecDepth 100000 in
theorem lod_any (c : UInt8) (w : World) : Calls Tryz.prog 102 #[.int .u8 (c.toNat : Int)] w (Ret (.bool (Pl.lodB c)) w) := by
  have hl := fun w => letter_any c w
  have hd := fun w => digit_any c w
  unfold Pl.lodB
  obtain ⟨D, hD⟩ : ∃ D, Pl.digB c = D := ⟨_, rfl⟩
  obtain ⟨L, hL⟩ : ∃ L, Pl.letB c = L := ⟨_, rfl⟩
  rw [hD] at hd ⊢
  rw [hL] at hl ⊢
  clear hD hL
  have HD := Lib.hid (And.intro hl hd)
  clear hl hd
  cases L with
  | true =>
    go_enter Tryz.func102, Tryz.ntmps102
    go_wp2_with fail
    (with_reducible refine (HD.out.1 _).mono ?_)
    rintro e w1 ⟨rfl, rfl⟩
    go_wp2_with fail
    go_ret
    exact ⟨rfl, rfl⟩
  | false =>
    go_enter Tryz.func102, Tryz.ntmps102
    go_wp2_with fail
    (with_reducible refine (HD.out.1 _).mono ?_)
    rintro e w1 ⟨rfl, rfl⟩
    go_wp2_with fail
    (with_reducible refine (HD.out.2 _).mono ?_)
    rintro e w2 ⟨rfl, rfl⟩
    go_wp2_with fail
    go_ret
    exact ⟨rfl, rfl⟩
end Go.Proofs.YtmmnkoeajdeldaaGreatDoor
namespace Go.Proofs.YtmmnkoeajdeldaaGreatDoor
open Go.RowKit Go.Maps Go.WideMaps
set_option linter.unusedVariables false
set_option linter.unusedSimpArgs false
attribute [local go_sem] ba_get ba_cut ba_add fld_k fld_s fld_n
theorem span_at (p : UInt8 → Bool) (s : List UInt8) (i : Nat) (hi : i < s.length) : Pl.spanN p (s.drop i) = if p s[i] then Pl.spanN p (s.drop (i + 1)) + 1 else 0 := by
  rw [List.drop_eq_getElem_cons hi]; rfl
theorem span_end (p : UInt8 → Bool) (s : List UInt8) (i : Nat) (hi : s.length ≤ i) : Pl.spanN p (s.drop i) = 0 := by
  rw [List.drop_eq_nil_of_le hi]; rfl
set_option maxRecDepth 100000 in
theorem span_any (F : Nat) (hF : ∀ (c : Int) (W : World), (callFunc F #[.int .u8 c]).run Tryz.prog W = .ok (.enter F #[.int .u8 c]) W) (p : UInt8 → Bool) (hp : ∀ (c : UInt8) (W : World), Calls Tryz.prog F #[.int .u8 (c.toNat : Int)] W (Ret (.bool (p c)) W)) (s : List UInt8) (a : Nat) (av : Int) (hav : av = (a : Int)) (ha : a ≤ s.length) (hs : s.length ≤ 1000000) (w : World) :
    Calls Tryz.prog 101 #[.string ⟨s.toArray⟩, .int .i64 av, .func (.func F) #[] #[]] w (Ret (.int .i64 (Pl.spanN p (s.drop a) : Nat)) w) := by
  subst hav
  obtain ⟨R, hR⟩ : ∃ R, Pl.spanN p (s.drop a) = R := ⟨_, rfl⟩
  rw [hR]
  have HR := Lib.hid hR
  have HP := Lib.hid hp
  clear hR hp
  go_enter Tryz.func101, Tryz.ntmps101
  go_wp2_with fail
  go_loopw [7] (fun i wr => ∃ k : Nat, a + k ≤ s.length ∧ i = .int .i64 (k : Int) ∧ wr = w ∧ Hid (k + Pl.spanN p (s.drop (a + k)) = R)) (fun i _ => s.length - a - (intOf i).toNat)
  case atStart => exact ⟨0, by omega, rfl, rfl, Lib.hid (by rw [Nat.zero_add]; exact HR.out)⟩
  case round =>
    obtain ⟨k, hk, rfl, rfl, HK⟩ := hrel
    by_cases hks : a + k < s.length
    · have hat := span_at p s (a + k) hks
      obtain ⟨c, hc⟩ : ∃ c, s[a + k] = c := ⟨_, rfl⟩
      rw [hc] at hat
      have hix : ∀ W', (Instr.index 9 (.string ⟨s.toArray⟩) (.int .i64 ((a : Int) + (k : Int)))).run Tryz.prog W' = .ok (.int .u8 (c.toNat : Int)) W' := by
        intro W'
        have hj0 : (0 : Int) ≤ (a : Int) + (k : Int) := by omega
        have hj1 : (a : Int) + (k : Int) < (s.length : Int) := by omega
        have hj2 : ((a : Int) + (k : Int)).toNat = a + k := by omega
        rw [← hc]
        simp [go_sem, hj0, hj1, hj2, hks]
      have hj3 : (a : Int) + (k : Int) < (s.length : Int) := by omega
      have HA := Lib.hid (And.intro hat hc)
      clear hat hc
      obtain ⟨b, hb⟩ : ∃ b, p c = b := ⟨_, rfl⟩
      have hcall := fun W => HP.out c W
      rw [hb] at hcall
      have HB := Lib.hid hb
      clear hb
      cases b with
      | true =>
        go_wp2_with fail
        (with_reducible refine (hcall _).mono ?_)
        rintro e w1 ⟨rfl, rfl⟩
        go_wp2_with fail
        exact ⟨⟨k + 1, by omega, ret_i (by omega), trivial, Lib.hid (by have h1 := HA.out.1; have h2 := HK.out; rw [h1, if_pos HB.out] at h2; rw [show a + (k + 1) = a + k + 1 by omega]; omega)⟩, by simp only [intOf]; omega⟩
      | false =>
        go_wp2_with fail
        (with_reducible refine (hcall _).mono ?_)
        rintro e w1 ⟨rfl, rfl⟩
        have hRk : R = k := by have h1 := HA.out.1; have h2 := HK.out; rw [h1, if_neg (by rw [HB.out]; simp)] at h2; omega
        go_wp2_with fail
        go_ret
        rw [hRk]
        exact ⟨rfl, rfl⟩
    · have hRk : R = k := by have h2 := HK.out; rw [span_end p s (a + k) (by omega)] at h2; omega
      go_wp2_with fail
      go_ret
      exact ⟨rfl, rfl⟩
end Go.Proofs.YtmmnkoeajdeldaaGreatDoor
namespace Go.Proofs.YtmmnkoeajdeldaaGreatDoor
open Go.RowKit Go.Maps Go.WideMaps
set_option linter.unusedVariables false
set_option linter.unusedSimpArgs false
attribute [local go_sem] ba_get ba_cut ba_add fld_k fld_s fld_n
def EscQ (w : World) (ln : Nat) (E : Option (UInt8 × Nat)) (x : Ending) (w' : World) : Prop := w' = w ∧ match E with
  | none => Thrown 3 ln x
  | some (c, n) => x = .returned (.tuple #[.int .u8 (c.toNat : Int), .int .i64 (n : Int)])
theorem hex_lt {c : UInt8} {k : Nat} (h : Pl.hexN c = some k) : k < 16 := by
  unfold Pl.hexN Pl.digB at h
  split at h
  · next hh => have := of_decide_eq_true hh; cases h; omega
  · split at h
    · cases h; omega
    · cases h
set_option maxRecDepth 100000 in
theorem or_nib : ∀ (x y : Fin 16), bits .or .u8 ((x.val : Int) * 16) (y.val : Int) = ((16 * x.val + y.val : Nat) : Int) := by decide
set_option maxRecDepth 100000 in
set_option maxHeartbeats 1000000 in
theorem escape_any (A ln : Nat) (Z : AsV) (l : List UInt8) (w : World) (H : AsB w A ln Z) (hl : l.length ≤ 1000000) : Calls Tryz.prog 138 #[.pointer (some ⟨A, 0, none⟩), .string ⟨l.toArray⟩] w (EscQ w ln (Pl.esc l)) := by
  have HT := Lib.hid (throw_any A ln Z 3 3 rfl w H)
  clear H
  cases l with
  | nil =>
    go_enter Tryz.func138, Tryz.ntmps138
    go_wp2_with fail
    (with_reducible refine HT.out.mono ?_)
    rintro e w1 ⟨rfl, rfl⟩
    exact ⟨rfl, rfl, rfl⟩
  | cons c r =>
    simp only [Pl.esc]
    have hix : ∀ W', (Instr.index 9 (.string ⟨(c :: r).toArray⟩) (.int .i64 0)).run Tryz.prog W' = .ok (.int .u8 (c.toNat : Int)) W' := by
      intro W'
      simp [go_sem]
    have hne : ((c :: r) == ([] : List UInt8)) = false := by simp
    have hcl := c.toNat_lt
    obtain ⟨q, hq⟩ : ∃ q, c :: r = q := ⟨_, rfl⟩
    obtain ⟨x, hx⟩ : ∃ x, c.toNat = x := ⟨_, rfl⟩
    have hql : 1 ≤ q.length := by rw [← hq]; simp
    have hq1 : q.length = r.length + 1 := by rw [← hq]; simp
    rw [hq] at hix hne hl ⊢
    rw [hx] at hix hcl ⊢
    have HQ := Lib.hid (And.intro hq hx)
    clear hq hx
    by_cases h1 : x = 34 ∨ x = 92
    · rw [if_pos h1]
      rcases h1 with rfl | rfl
      all_goals
        go_enter Tryz.func138, Tryz.ntmps138
        go_wp2_with fail
        refine bodyPost_ret (v := .tuple #[.int .u8 (c.toNat : Int), .int .i64 1]) ?_ rfl ⟨rfl, rfl⟩
        rw [HQ.out.2]
        simp [results, Tryz.results138, go_sem]
    rw [if_neg h1]
    have e1 : ((x : Int) == 34) = false := by simp; omega
    have e2 : ((x : Int) == 92) = false := by simp; omega
    clear h1
    by_cases h2 : x = 110
    · rw [if_pos h2]
      subst h2
      go_enter Tryz.func138, Tryz.ntmps138
      go_wp2_with fail
      refine bodyPost_ret (v := .tuple #[.int .u8 10, .int .i64 1]) ?_ rfl ⟨rfl, rfl⟩
      simp [results, Tryz.results138, go_sem]
    rw [if_neg h2]
    have e3 : ((x : Int) == 110) = false := by simp; omega
    clear h2
    by_cases h3 : x = 120
    case neg =>
      rw [if_neg h3]
      have e4 : ((x : Int) == 120) = false := by simp; omega
      clear h3
      go_enter Tryz.func138, Tryz.ntmps138
      go_wp2_with fail
      (with_reducible refine HT.out.mono ?_)
      rintro e w1 ⟨rfl, rfl⟩
      exact ⟨rfl, rfl, rfl⟩
    rw [if_pos h3]
    subst h3
    have short : q.length < 3 → Calls Tryz.prog 138 #[.pointer (some ⟨A, 0, none⟩), .string ⟨q.toArray⟩] w (EscQ w ln none) := fun hs => by
      go_enter Tryz.func138, Tryz.ntmps138
      go_wp2_with fail
      (with_reducible refine HT.out.mono ?_)
      rintro e w1 ⟨rfl, rfl⟩
      exact ⟨rfl, rfl, rfl⟩
    rcases r with _ | ⟨a, r⟩
    · exact short (by rw [hq1]; simp)
    rcases r with _ | ⟨b, r⟩
    · exact short (by rw [hq1]; simp)
    clear short
    have hq3 : 3 ≤ q.length := by rw [hq1]; simp
    have hi1 : ∀ W', (Instr.index 9 (.string ⟨q.toArray⟩) (.int .i64 1)).run Tryz.prog W' = .ok (.int .u8 (a.toNat : Int)) W' := by
      intro W'
      rw [← HQ.out.1]
      simp [go_sem]
      intro h
      omega
    have hi2 : ∀ W', (Instr.index 9 (.string ⟨q.toArray⟩) (.int .i64 2)).run Tryz.prog W' = .ok (.int .u8 (b.toNat : Int)) W' := by
      intro W'
      rw [← HQ.out.1]
      simp [go_sem]
      intro h
      omega
    have HA := Lib.hid (fun W => hex_any a W)
    have HB := Lib.hid (fun W => hex_any b W)
    simp only
    have ha16 := @hex_lt a
    have hb16 := @hex_lt b
    obtain ⟨X, hX⟩ : ∃ X, Pl.hexN a = X := ⟨_, rfl⟩
    obtain ⟨Y, hY⟩ : ∃ Y, Pl.hexN b = Y := ⟨_, rfl⟩
    rw [hX] at HA ha16 ⊢
    rw [hY] at HB hb16 ⊢
    clear hX hY hq1 hql
    rcases X with _ | x <;> rcases Y with _ | y
    case some.some =>
      have hx := ha16 rfl
      have hy := hb16 rfl
      clear ha16 hb16
      go_enter Tryz.func138, Tryz.ntmps138
      go_wp2_with fail
      (with_reducible refine (HA.out _).mono ?_)
      rintro e w1 ⟨rfl, rfl⟩
      unfold hexV
      go_wp2_with fail
      (with_reducible refine (HB.out _).mono ?_)
      rintro e w2 ⟨rfl, rfl⟩
      unfold hexV
      go_wp2_with fail
      refine bodyPost_ret (v := .tuple #[.int .u8 ((UInt8.ofNat (16 * x + y)).toNat : Int), .int .i64 3]) ?_ rfl ⟨rfl, rfl⟩
      have hb8 := or_nib ⟨x, hx⟩ ⟨y, hy⟩
      simp only at hb8
      have hu : (UInt8.ofNat (16 * x + y)).toNat = 16 * x + y := by simp; omega
      rw [hu]
      simp [results, Tryz.results138, go_sem, hb8]
    all_goals
      clear ha16 hb16
      go_enter Tryz.func138, Tryz.ntmps138
      go_wp2_with fail
      (with_reducible refine (HA.out _).mono ?_)
      rintro e w1 ⟨rfl, rfl⟩
      unfold hexV
      go_wp2_with fail
      (with_reducible refine (HB.out _).mono ?_)
      rintro e w2 ⟨rfl, rfl⟩
      unfold hexV
      go_wp2_with fail
      (with_reducible refine HT.out.mono ?_)
      rintro e w3 ⟨rfl, rfl⟩
      exact ⟨rfl, rfl, rfl⟩
end Go.Proofs.YtmmnkoeajdeldaaGreatDoor
