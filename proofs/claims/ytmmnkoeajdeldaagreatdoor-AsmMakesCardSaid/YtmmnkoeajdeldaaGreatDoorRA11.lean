/- The document's digits, letters, runs (chapter 11). The document's token (chapter 11): its value; fits, shape. The document's register of a token (chapter 11). Plain Lean: the document's tokens, step by step, and what is known of each. No program in sight. The document's kinds of tokens, words of an item, four bytes (chapter 11). The document's quote that a text begins with (chapter 11). Printed by genquo.py. The document's number of a token (chapter 11). Printed by gennum.py. The document's tokens of a line (chapter 11). Printed by gentoks.py. -/
import Derived.Test.YtmmnkoeajdeldaaGreatDoorBase
import Derived.Test.YtmmnkoeajdeldaaGreatDoorAsPl
import Derived.Test.YtmmnkoeajdeldaaGreatDoorAsDc
import Derived.Test.YtmmnkoeajdeldaaGreatDoorAsEq3
import Derived.Test.YtmmnkoeajdeldaaGreatDoorAsT5
import Derived.Test.YtmmnkoeajdeldaaGreatDoorSteady
import Derived.Test.YtmmnkoeajdeldaaGreatDoorHeldL
import Derived.Test.YtmmnkoeajdeldaaGreatDoorAsMem
import Derived.Test.YtmmnkoeajdeldaaGreatDoorAsT8
namespace Go.Proofs.YtmmnkoeajdeldaaGreatDoor
open Go.RowKit
set_option linter.unusedVariables false
set_option linter.unusedSimpArgs false
attribute [local go_sem] ba_get ba_cut ba_add
/-- The three words on a row that is set (LAY8). -/
theorem lay8 : (∀ (l : List Value) (i : Nat) (a : Value), l.toArray.setIfInBounds i a = (l.set i a).toArray) ∧ (∀ (x : Value) (l : List Value) (a : Value), (x :: l).set 0 a = a :: l) ∧ (∀ (x : Value) (l : List Value) (n : Nat) (a : Value), (x :: l).set (n + 1) a = x :: l.set n a) :=
  ⟨fun _ _ _ => List.setIfInBounds_toArray .., fun _ _ _ => rfl, fun _ _ _ _ => rfl⟩
theorem ten {p : Nat → Prop} (h : ∀ j, p j) : p 0 ∧ p 1 ∧ p 2 ∧ p 3 ∧ p 4 ∧ p 5 ∧ p 6 ∧ p 7 ∧ p 8 ∧ p 9 := ⟨h 0, h 1, h 2, h 3, h 4, h 5, h 6, h 7, h 8, h 9⟩
set_option maxRecDepth 100000 in
theorem rdigit_any (c : UInt8) (w : World) : Calls Tryz.prog 113 #[.int .u8 (c.toNat : Int)] w (Ret (.bool (Pl.digB c)) w) := by
  unfold Pl.digB
  have hc := c.toNat_lt
  obtain ⟨x, hx⟩ : ∃ x, c.toNat = x := ⟨_, rfl⟩
  rw [hx] at hc ⊢
  clear hx
  go_enter Tryz.func113, Tryz.ntmps113
  go_wp2_with fail
  all_goals go_ret
  all_goals
    refine ⟨?_, rfl⟩
    show Ending.returned (Value.bool _) = Ending.returned (Value.bool _)
    congr 2
    rw [Bool.eq_iff_iff]
    simp
    omega
set_option maxRecDepth 100000 in
theorem rletter_any (c : UInt8) (w : World) : Calls Tryz.prog 112 #[.int .u8 (c.toNat : Int)] w (Ret (.bool (Pl.lodB c)) w) := by
  have hd := fun W => rdigit_any c W
  unfold Pl.lodB Pl.letB
  obtain ⟨b, hb⟩ : ∃ b, Pl.digB c = b := ⟨_, rfl⟩
  rw [hb] at hd ⊢
  have hc := c.toNat_lt
  obtain ⟨x, hx⟩ : ∃ x, c.toNat = x := ⟨_, rfl⟩
  rw [hx] at hc hd ⊢
  have HD := Lib.hid hd
  clear hx hd hb
  by_cases h : 97 ≤ x ∧ x ≤ 122 ∨ 65 ≤ x ∧ x ≤ 90 ∨ x = 95
  · rw [decide_eq_true h, Bool.true_or]
    rcases h with ⟨g1, g2⟩ | ⟨g1, g2⟩ | rfl
    · go_enter Tryz.func112, Tryz.ntmps112
      go_wp2_with fail
      go_ret
      exact ⟨rfl, rfl⟩
    · have g3 : ¬ (97 : Int) ≤ (x : Int) := by omega
      go_enter Tryz.func112, Tryz.ntmps112
      go_wp2_with fail
      go_ret
      exact ⟨rfl, rfl⟩
    · go_enter Tryz.func112, Tryz.ntmps112
      go_wp2_with fail
      go_ret
      exact ⟨rfl, rfl⟩
  · rw [decide_eq_false h, Bool.false_or]
    have e95 : ((x : Int) == 95) = false := by rw [beq_eq_false_iff_ne]; omega
    have hcs : x < 65 ∨ (90 < x ∧ x < 97) ∨ 122 < x := by omega
    clear h
    rcases hcs with g | ⟨g, g2⟩ | g
    all_goals
      go_enter Tryz.func112, Tryz.ntmps112
      go_wp2_with fail
      all_goals try (exfalso; omega)
      all_goals
        (with_reducible refine (HD.out _).mono ?_)
        rintro y w1 ⟨rfl, rfl⟩
        go_wp2_with fail
        go_ret
        refine ⟨?_, rfl⟩
        first
          | rfl
          | (show Ending.returned (Value.bool _) = Ending.returned (Value.bool _); congr 2; cases b <;> simp <;> omega)
set_option maxRecDepth 100000 in
theorem rhex_any (c : UInt8) (w : World) : Calls Tryz.prog 141 #[.int .u8 (c.toNat : Int)] w (Ret (.int .u8 (((Pl.hexN c).getD 16 : Nat) : Int)) w) := by
  have hd := fun W => rdigit_any c W
  have hc := c.toNat_lt
  unfold Pl.hexN
  obtain ⟨b, hb⟩ : ∃ b, Pl.digB c = b := ⟨_, rfl⟩
  rw [hb] at hd ⊢
  have hdb : b = decide (48 ≤ c.toNat ∧ c.toNat ≤ 57) := by rw [← hb]; rfl
  obtain ⟨x, hx⟩ : ∃ x, c.toNat = x := ⟨_, rfl⟩
  rw [hx] at hc hd hdb ⊢
  have HD := Lib.hid hd
  clear hx hd hb
  cases b with
  | true =>
    have h : 48 ≤ x ∧ x ≤ 57 := of_decide_eq_true hdb.symm
    obtain ⟨g1, g2⟩ := h
    have hw : IntKind.u8.wrap ((x : Int) - 48) = ((x - 48 : Nat) : Int) := by rw [IntKind.wrap_u8]; omega
    clear hdb
    simp only [if_true, Option.getD_some]
    obtain ⟨q, hq⟩ : ∃ q, x - 48 = q := ⟨_, rfl⟩
    rw [hq] at hw ⊢
    go_enter Tryz.func141, Tryz.ntmps141
    go_wp2_with fail
    (with_reducible refine (HD.out _).mono ?_)
    rintro y w1 ⟨rfl, rfl⟩
    go_wp2_with fail
    go_ret
    exact ⟨rfl, rfl⟩
  | false =>
    simp only [Bool.false_eq_true, if_false]
    by_cases h : 97 ≤ x ∧ x ≤ 102
    · rw [if_pos h]
      obtain ⟨g1, g2⟩ := h
      have hw1 : IntKind.u8.wrap ((x : Int) - 97) = ((x - 97 : Nat) : Int) := by rw [IntKind.wrap_u8]; omega
      have hw2 : IntKind.u8.wrap (((x - 97 : Nat) : Int) + 10) = ((x - 87 : Nat) : Int) := by rw [IntKind.wrap_u8]; omega
      simp only [Option.getD_some]
      obtain ⟨q, hq⟩ : ∃ q, x - 97 = q := ⟨_, rfl⟩
      obtain ⟨q2, hq2⟩ : ∃ q, x - 87 = q := ⟨_, rfl⟩
      rw [hq] at hw1 hw2
      rw [hq2] at hw2 ⊢
      clear hdb
      go_enter Tryz.func141, Tryz.ntmps141
      go_wp2_with fail
      (with_reducible refine (HD.out _).mono ?_)
      rintro y w1 ⟨rfl, rfl⟩
      go_wp2_with fail
      go_ret
      exact ⟨rfl, rfl⟩
    · rw [if_neg h]
      simp only [Option.getD_none]
      have hcs : x < 97 ∨ 102 < x := by omega
      clear hdb h
      rcases hcs with g | g
      all_goals
        go_enter Tryz.func141, Tryz.ntmps141
        go_wp2_with fail
        (with_reducible refine (HD.out _).mono ?_)
        rintro y w1 ⟨rfl, rfl⟩
        go_wp2_with fail
        all_goals try (exfalso; omega)
        all_goals
          go_ret
          exact ⟨rfl, rfl⟩
theorem span_drop (p : UInt8 → Bool) (s : List UInt8) (i : Nat) (h : i < s.length) : Pl.spanN p (s.drop i) = if p s[i] then Pl.spanN p (s.drop (i + 1)) + 1 else 0 := by
  rw [List.drop_eq_getElem_cons h, Pl.spanN]
set_option maxRecDepth 100000 in
theorem rrun_any (s : List UInt8) (i0 : Nat) (b : Bool) (hs : s.length ≤ 100000) (hi : i0 ≤ s.length) (w : World) :
    Calls Tryz.prog 114 #[.string ⟨s.toArray⟩, .int .i64 (i0 : Int), .bool b] w (Ret (.int .i64 ((i0 + Pl.spanN (if b then Pl.digB else Pl.lodB) (s.drop i0) : Nat) : Int)) w) := by
  obtain ⟨R, hR⟩ : ∃ R, i0 + Pl.spanN (if b then Pl.digB else Pl.lodB) (s.drop i0) = R := ⟨_, rfl⟩
  rw [hR]
  have HR := Lib.hid hR
  clear hR
  cases b with
  | true =>
    go_enter Tryz.func114, Tryz.ntmps114
    go_wp2_with fail
    go_loopw [1] (fun i wr => ∃ (k : Nat), k ≤ s.length ∧ i = .int .i64 (k : Int) ∧ wr = w ∧ Hid (k + Pl.spanN Pl.digB (s.drop k) = R)) (fun i _ => s.length - (intOf i).toNat)
    case atStart => exact ⟨i0, hi, rfl, rfl, HR⟩
    case round =>
      obtain ⟨k, hk, rfl, rfl, HK⟩ := hrel
      obtain ⟨w, rfl⟩ : ∃ V, V = wr := ⟨_, rfl⟩
      by_cases hkn : k < s.length
      · have hsp := span_drop Pl.digB s k hkn
        obtain ⟨c, hc⟩ : ∃ c, s[k] = c := ⟨_, rfl⟩
        have hix : ∀ W', (Instr.index 9 (.string ⟨s.toArray⟩) (.int .i64 (k : Int))).run Tryz.prog W' = .ok (.int .u8 (c.toNat : Int)) W' := by
          intro W'
          rw [← hc]
          simp [go_sem, hkn]
        rw [hc] at hsp
        have hd := fun W => rdigit_any c W
        obtain ⟨q, hq⟩ : ∃ q, Pl.digB c = q := ⟨_, rfl⟩
        rw [hq] at hd hsp
        have HD := Lib.hid hd
        have HS := Lib.hid hsp
        clear hd hsp hc hq
        cases q with
        | true =>
          go_wp2_with fail
          (with_reducible refine (HD.out _).mono ?_)
          rintro y w1 ⟨rfl, rfl⟩
          go_wp2_with fail
          exact ⟨⟨k + 1, by omega, ret_i (by omega), trivial, Lib.hid (by have h1 := HS.out; have h2 := HK.out; rw [h1] at h2; simp only [if_true] at h2; omega)⟩, by simp only [intOf]; omega⟩
        | false =>
          have hRk : R = k := by have h1 := HS.out; have h2 := HK.out; rw [h1] at h2; simp at h2; omega
          subst hRk
          go_wp2_with fail
          (with_reducible refine (HD.out _).mono ?_)
          rintro y w1 ⟨rfl, rfl⟩
          go_wp2_with fail
          go_ret
          exact ⟨rfl, rfl⟩
      · have hRk : R = k := by have h2 := HK.out; rw [List.drop_eq_nil_of_le (by omega)] at h2; simpa [Pl.spanN] using h2.symm
        subst hRk
        go_wp2_with fail
        go_ret
        exact ⟨rfl, rfl⟩
  | false =>
    go_enter Tryz.func114, Tryz.ntmps114
    go_wp2_with fail
    go_loopw [1] (fun i wr => ∃ (k : Nat), k ≤ s.length ∧ i = .int .i64 (k : Int) ∧ wr = w ∧ Hid (k + Pl.spanN Pl.lodB (s.drop k) = R)) (fun i _ => s.length - (intOf i).toNat)
    case atStart => exact ⟨i0, hi, rfl, rfl, HR⟩
    case round =>
      obtain ⟨k, hk, rfl, rfl, HK⟩ := hrel
      obtain ⟨w, rfl⟩ : ∃ V, V = wr := ⟨_, rfl⟩
      by_cases hkn : k < s.length
      · have hsp := span_drop Pl.lodB s k hkn
        obtain ⟨c, hc⟩ : ∃ c, s[k] = c := ⟨_, rfl⟩
        have hix : ∀ W', (Instr.index 9 (.string ⟨s.toArray⟩) (.int .i64 (k : Int))).run Tryz.prog W' = .ok (.int .u8 (c.toNat : Int)) W' := by
          intro W'
          rw [← hc]
          simp [go_sem, hkn]
        rw [hc] at hsp
        have hd := fun W => rletter_any c W
        obtain ⟨q, hq⟩ : ∃ q, Pl.lodB c = q := ⟨_, rfl⟩
        rw [hq] at hd hsp
        have HD := Lib.hid hd
        have HS := Lib.hid hsp
        clear hd hsp hc hq
        cases q with
        | true =>
          go_wp2_with fail
          (with_reducible refine (HD.out _).mono ?_)
          rintro y w1 ⟨rfl, rfl⟩
          go_wp2_with fail
          exact ⟨⟨k + 1, by omega, ret_i (by omega), trivial, Lib.hid (by have h1 := HS.out; have h2 := HK.out; rw [h1] at h2; simp only [if_true] at h2; omega)⟩, by simp only [intOf]; omega⟩
        | false =>
          have hRk : R = k := by have h1 := HS.out; have h2 := HK.out; rw [h1] at h2; simp at h2; omega
          subst hRk
          go_wp2_with fail
          (with_reducible refine (HD.out _).mono ?_)
          rintro y w1 ⟨rfl, rfl⟩
          go_wp2_with fail
          go_ret
          exact ⟨rfl, rfl⟩
      · have hRk : R = k := by have h2 := HK.out; rw [List.drop_eq_nil_of_le (by omega)] at h2; simpa [Pl.spanN] using h2.symm
        subst hRk
        go_wp2_with fail
        go_ret
        exact ⟨rfl, rfl⟩
set_option maxRecDepth 100000 in
theorem rin_any (c : UInt8) (s : List UInt8) (hs : s.length ≤ 100000) (w : World) : Calls Tryz.prog 110 #[.int .u8 (c.toNat : Int), .string ⟨s.toArray⟩] w (Ret (.bool (decide (c ∈ s))) w) := by
  obtain ⟨R, hR⟩ : ∃ R, decide (c ∈ s) = R := ⟨_, rfl⟩
  rw [hR]
  have HR := Lib.hid hR
  clear hR
  obtain ⟨x, hx⟩ : ∃ x, c.toNat = x := ⟨_, rfl⟩
  rw [hx]
  have HX := Lib.hid hx
  clear hx
  go_enter Tryz.func110, Tryz.ntmps110
  go_wp2_with fail
  go_loopw [5] (fun i wr => ∃ (k : Nat), k ≤ s.length ∧ i = .int .i64 (k : Int) ∧ wr = w ∧ Hid (c ∉ s.take k)) (fun i _ => s.length - (intOf i).toNat)
  case atStart => exact ⟨0, by omega, rfl, rfl, Lib.hid (by simp)⟩
  case round =>
    obtain ⟨k, hk, rfl, rfl, HK⟩ := hrel
    obtain ⟨w, rfl⟩ : ∃ V, V = wr := ⟨_, rfl⟩
    by_cases hkn : k < s.length
    · have htk := List.take_succ_eq_append_getElem hkn
      have hmem := List.getElem_mem hkn
      obtain ⟨d, hd⟩ : ∃ d, s[k] = d := ⟨_, rfl⟩
      have hix : ∀ W', (Instr.index 9 (.string ⟨s.toArray⟩) (.int .i64 (k : Int))).run Tryz.prog W' = .ok (.int .u8 (d.toNat : Int)) W' := by
        intro W'
        rw [← hd]
        simp [go_sem, hkn]
      rw [hd] at htk hmem
      obtain ⟨y, hy⟩ : ∃ y, d.toNat = y := ⟨_, rfl⟩
      rw [hy] at hix
      have HD := Lib.hid (And.intro htk (And.intro hmem hy))
      clear htk hmem hy hd
      by_cases he : y = x
      · have hRt : R = true := by
          rw [← HR.out]
          have : c = d := UInt8.toNat_inj.1 (by rw [HX.out, HD.out.2.2, he])
          rw [this]; exact decide_eq_true HD.out.2.1
        have e1 : ((y : Int) == (x : Int)) = true := by rw [beq_iff_eq]; omega
        subst hRt
        clear he
        go_wp2_with fail
        go_ret
        exact ⟨rfl, rfl⟩
      · have e1 : ((y : Int) == (x : Int)) = false := by rw [beq_eq_false_iff_ne]; omega
        go_wp2_with fail
        refine ⟨⟨k + 1, by omega, ret_i (by omega), trivial, Lib.hid ?_⟩, by simp only [intOf]; omega⟩
        rw [HD.out.1]
        intro e
        rcases List.mem_append.1 e with e | e
        · exact HK.out e
        · rw [List.mem_singleton] at e
          apply he; rw [← HX.out, ← HD.out.2.2, e]
    · have hRf : R = false := by
        have h := HK.out
        rw [List.take_of_length_le (by omega)] at h
        rw [← HR.out]; exact decide_eq_false h
      subst hRf
      go_wp2_with fail
      go_ret
      exact ⟨rfl, rfl⟩
end Go.Proofs.YtmmnkoeajdeldaaGreatDoor
namespace Go.Proofs.YtmmnkoeajdeldaaGreatDoor
open Go.RowKit
set_option linter.unusedVariables false
set_option linter.unusedSimpArgs false
attribute [local go_sem] ba_get ba_cut ba_add
/-- A token of the document. -/
def dtV (d : Pl.Dt) : Value := .agg #[.int .u8 (d.k : Int), .string ⟨d.s.toArray⟩, .int .i64 d.n, .bool d.big]
set_option maxRecDepth 100000 in
theorem rfits_any (d : Pl.Dt) (w : World) : Calls Tryz.prog 119 #[dtV d] w (RetB (fun v _ => v = .bool (Pl.fits32 d)) w) := by
  obtain ⟨k, s, n, big⟩ := d
  unfold Pl.fits32 dtV
  simp only
  cases big with
  | true =>
    go_enter Tryz.func119, Tryz.ntmps119
    go_wp2_with fail
    go_ret
    exact ⟨_, rfl, rfl, (Below.refl _ _).alloc (Nat.le_refl _) _⟩
  | false =>
    by_cases h1 : -2147483648 ≤ n
    · by_cases h2 : n ≤ 4294967295
      · rw [decide_eq_true ⟨h1, h2⟩]
        go_enter Tryz.func119, Tryz.ntmps119
        go_wp2_with fail
        go_ret
        exact ⟨_, rfl, rfl, (Below.refl _ _).alloc (Nat.le_refl _) _⟩
      · rw [decide_eq_false (fun e => h2 e.2)]
        go_enter Tryz.func119, Tryz.ntmps119
        go_wp2_with fail
        go_ret
        exact ⟨_, rfl, rfl, (Below.refl _ _).alloc (Nat.le_refl _) _⟩
    · rw [decide_eq_false (fun e => h1 e.1)]
      go_enter Tryz.func119, Tryz.ntmps119
      go_wp2_with fail
      go_ret
      exact ⟨_, rfl, rfl, (Below.refl _ _).alloc (Nat.le_refl _) _⟩
set_option maxRecDepth 100000 in
theorem rshape_any (f : Nat) (hf : 1 ≤ f ∧ f ≤ 5) (c : UInt8) (w : World) : Calls Tryz.prog 143 #[.int .i64 (f : Int), .string ⟨#[c]⟩] w (Ret (.string ⟨((Pl.shapeD f c.toNat).map UInt8.ofNat).toArray⟩) w) := by
  have h5 : f = 1 ∨ f = 2 ∨ f = 3 ∨ f = 4 ∨ f = 5 := by omega
  have hc : UInt8.ofNat c.toNat = c := UInt8.ofNat_toNat
  have h1 : (Pl.shapeD 1 c.toNat).map UInt8.ofNat = [119, 119, 44, 119, 44, 119] := rfl
  have h2 : (Pl.shapeD 2 c.toNat).map UInt8.ofNat = [119, 119, 44, 119, 44, c] := by simp [Pl.shapeD, hc]
  have h3 : (Pl.shapeD 3 c.toNat).map UInt8.ofNat = [119, 119, 44, c] := by simp [Pl.shapeD, hc]
  have h4 : (Pl.shapeD 4 c.toNat).map UInt8.ofNat = [119, 119, 44, c, 40, 119, 41] := by simp [Pl.shapeD, hc]
  have h6 : (Pl.shapeD 5 c.toNat).map UInt8.ofNat = [119, c] := by simp [Pl.shapeD, hc]
  rcases h5 with rfl | rfl | rfl | rfl | rfl
  · rw [h1]
    go_enter Tryz.func143, Tryz.ntmps143
    go_wp2_with fail
    go_ret
    exact ⟨rfl, rfl⟩
  · rw [h2]
    go_enter Tryz.func143, Tryz.ntmps143
    go_wp2_with fail
    go_ret
    exact ⟨rfl, rfl⟩
  · rw [h3]
    go_enter Tryz.func143, Tryz.ntmps143
    go_wp2_with fail
    go_ret
    exact ⟨rfl, rfl⟩
  · rw [h4]
    go_enter Tryz.func143, Tryz.ntmps143
    go_wp2_with fail
    go_ret
    exact ⟨rfl, rfl⟩
  · rw [h6]
    go_enter Tryz.func143, Tryz.ntmps143
    go_wp2_with fail
    go_ret
    exact ⟨rfl, rfl⟩
end Go.Proofs.YtmmnkoeajdeldaaGreatDoor
namespace Go.Proofs.YtmmnkoeajdeldaaGreatDoor
open Go.RowKit
set_option linter.unusedVariables false
set_option linter.unusedSimpArgs false
attribute [local go_sem] ba_get ba_cut ba_add
set_option maxRecDepth 100000 in
theorem rreg11_any (d : Pl.Dt) (w : World) (hk : d.k < 256) (hs : d.s.length ≤ 100000) : Calls Tryz.prog 142 #[dtV d] w (RetB (fun v _ => v = .int .u8 (Pl.regD d : Nat)) w) := by
  obtain ⟨k, s, n, big⟩ := d
  dsimp only at hk hs
  obtain ⟨R, hR⟩ : ∃ R, Pl.regD ⟨k, s, n, big⟩ = R := ⟨_, rfl⟩
  rw [hR]
  unfold Pl.regD at hR
  simp only at hR
  unfold dtV
  simp only
  by_cases h1 : k ≠ 119
  · rw [if_pos h1] at hR
    have e1 : ((k : Int) != 119) = true := by rw [bne_iff_ne]; omega
    subst hR
    clear h1
    go_enter Tryz.func142, Tryz.ntmps142
    go_wp2_with fail
    go_ret
    exact ⟨_, rfl, rfl, (Below.refl _ _).alloc (Nat.le_refl _) _⟩
  rw [if_neg h1] at hR
  have e1 : ((k : Int) != 119) = false := by simp; omega
  clear h1
  rcases s with _ | ⟨a, _ | ⟨b, _ | ⟨c, _ | ⟨e, s⟩⟩⟩⟩
  · subst hR
    go_enter Tryz.func142, Tryz.ntmps142
    go_wp2_with fail
    go_ret
    exact ⟨_, rfl, rfl, (Below.refl _ _).alloc (Nat.le_refl _) _⟩
  · subst hR
    go_enter Tryz.func142, Tryz.ntmps142
    go_wp2_with fail
    go_ret
    exact ⟨_, rfl, rfl, (Below.refl _ _).alloc (Nat.le_refl _) _⟩
  · simp only at hR
    have hb := fun W => rdigit_any b W
    obtain ⟨q, hq⟩ : ∃ q, Pl.digB b = q := ⟨_, rfl⟩
    have hqn : q = decide (48 ≤ b.toNat ∧ b.toNat ≤ 57) := by rw [← hq]; rfl
    rw [hq] at hb hR
    have HB := Lib.hid hb
    clear hb hq hs
    have hbl := b.toNat_lt
    obtain ⟨x, hx⟩ : ∃ x, a.toNat = x := ⟨_, rfl⟩
    rw [hx] at hR
    by_cases h2 : x = 114
    · have e2 : ((a.toNat : Int) != 114) = false := by rw [hx]; simp; omega
      cases q with
      | true =>
        rw [if_pos ⟨h2, rfl⟩] at hR
        have h48 : 48 ≤ b.toNat ∧ b.toNat ≤ 57 := of_decide_eq_true hqn.symm
        have hw : IntKind.u8.wrap ((b.toNat : Int) - 48) = (R : Int) := by rw [IntKind.wrap_u8]; omega
        clear hR h2 hqn h48 hx
        go_enter Tryz.func142, Tryz.ntmps142
        go_wp2_with fail
        refine (HB.out _).mono ?_
        rintro y w1 ⟨rfl, rfl⟩
        go_wp2_with fail
        go_ret
        exact ⟨_, rfl, rfl, (Below.refl _ _).alloc (Nat.le_refl _) _⟩
      | false =>
        rw [if_neg (by simp)] at hR
        subst hR
        clear h2 hqn hx
        go_enter Tryz.func142, Tryz.ntmps142
        go_wp2_with fail
        refine (HB.out _).mono ?_
        rintro y w1 ⟨rfl, rfl⟩
        go_wp2_with fail
        go_ret
        exact ⟨_, rfl, rfl, (Below.refl _ _).alloc (Nat.le_refl _) _⟩
    · have e2 : ((a.toNat : Int) != 114) = true := by rw [hx, bne_iff_ne]; omega
      rw [if_neg (fun e => h2 e.1)] at hR
      subst hR
      clear h2 hqn hx
      go_enter Tryz.func142, Tryz.ntmps142
      go_wp2_with fail
      go_ret
      exact ⟨_, rfl, rfl, (Below.refl _ _).alloc (Nat.le_refl _) _⟩
  · simp only at hR
    have hb := fun W => rdigit_any b W
    have hc := fun W => rdigit_any c W
    obtain ⟨q, hq⟩ : ∃ q, Pl.digB b = q := ⟨_, rfl⟩
    have hqn : q = decide (48 ≤ b.toNat ∧ b.toNat ≤ 57) := by rw [← hq]; rfl
    obtain ⟨r, hr⟩ : ∃ r, Pl.digB c = r := ⟨_, rfl⟩
    have hrn : r = decide (48 ≤ c.toNat ∧ c.toNat ≤ 57) := by rw [← hr]; rfl
    rw [hq] at hb
    rw [hr] at hc hR
    have HB := Lib.hid hb
    have HC := Lib.hid hc
    clear hb hc hq hr hs
    have hcl := c.toNat_lt
    by_cases h2 : a.toNat = 114
    rotate_left
    · have e2 : ((a.toNat : Int) != 114) = true := by rw [bne_iff_ne]; omega
      rw [if_neg (fun e => h2 e.1)] at hR
      subst hR
      clear h2 hqn hrn
      go_enter Tryz.func142, Tryz.ntmps142
      go_wp2_with fail
      go_ret
      exact ⟨_, rfl, rfl, (Below.refl _ _).alloc (Nat.le_refl _) _⟩
    have e2 : ((a.toNat : Int) != 114) = false := by simp; omega
    cases q with
    | false =>
      have h49 : ¬ b.toNat = 49 := fun e => by rw [e] at hqn; revert hqn; decide
      rw [if_neg (fun e => h49 e.2.1)] at hR
      subst hR
      clear h2 hqn hrn h49
      go_enter Tryz.func142, Tryz.ntmps142
      go_wp2_with fail
      refine (HB.out _).mono ?_
      rintro y w1 ⟨rfl, rfl⟩
      go_wp2_with fail
      go_ret
      exact ⟨_, rfl, rfl, (Below.refl _ _).alloc (Nat.le_refl _) _⟩
    | true =>
      by_cases h3 : b.toNat = 49
      rotate_left
      · have e3 : ((b.toNat : Int) != 49) = true := by rw [bne_iff_ne]; omega
        rw [if_neg (fun e => h3 e.2.1)] at hR
        subst hR
        clear h2 hqn hrn h3
        go_enter Tryz.func142, Tryz.ntmps142
        go_wp2_with fail
        refine (HB.out _).mono ?_
        rintro y w1 ⟨rfl, rfl⟩
        go_wp2_with fail
        go_ret
        exact ⟨_, rfl, rfl, (Below.refl _ _).alloc (Nat.le_refl _) _⟩
      have e3 : ((b.toNat : Int) != 49) = false := by simp; omega
      cases r with
      | false =>
        rw [if_neg (fun e => by cases e.2.2.1)] at hR
        subst hR
        clear h2 hqn hrn h3
        go_enter Tryz.func142, Tryz.ntmps142
        go_wp2_with fail
        refine (HB.out _).mono ?_
        rintro y w1 ⟨rfl, rfl⟩
        go_wp2_with fail
        refine (HC.out _).mono ?_
        rintro y w1 ⟨rfl, rfl⟩
        go_wp2_with fail
        go_ret
        exact ⟨_, rfl, rfl, (Below.refl _ _).alloc (Nat.le_refl _) _⟩
      | true =>
        have h48 : 48 ≤ c.toNat ∧ c.toNat ≤ 57 := of_decide_eq_true hrn.symm
        by_cases h4 : c.toNat ≤ 53
        · rw [if_pos ⟨h2, h3, rfl, h4⟩] at hR
          have e4 : ¬ (53 : Int) < (c.toNat : Int) := by omega
          have hw1 : IntKind.u8.wrap (10 + (c.toNat : Int)) = 10 + (c.toNat : Int) := by rw [IntKind.wrap_u8]; omega
          have hw2 : IntKind.u8.wrap (10 + (c.toNat : Int) - 48) = (R : Int) := by rw [IntKind.wrap_u8]; omega
          clear hR h2 hqn hrn h3 h4 h48
          go_enter Tryz.func142, Tryz.ntmps142
          go_wp2_with fail
          refine (HB.out _).mono ?_
          rintro y w1 ⟨rfl, rfl⟩
          go_wp2_with fail
          refine (HC.out _).mono ?_
          rintro y w1 ⟨rfl, rfl⟩
          go_wp2_with fail
          go_ret
          exact ⟨_, rfl, rfl, (Below.refl _ _).alloc (Nat.le_refl _) _⟩
        · rw [if_neg (fun e => h4 e.2.2.2)] at hR
          have e4 : (53 : Int) < (c.toNat : Int) := by omega
          subst hR
          clear h2 hqn hrn h3 h4 h48
          go_enter Tryz.func142, Tryz.ntmps142
          go_wp2_with fail
          refine (HB.out _).mono ?_
          rintro y w1 ⟨rfl, rfl⟩
          go_wp2_with fail
          refine (HC.out _).mono ?_
          rintro y w1 ⟨rfl, rfl⟩
          go_wp2_with fail
          go_ret
          exact ⟨_, rfl, rfl, (Below.refl _ _).alloc (Nat.le_refl _) _⟩
  · subst hR
    have hl : ¬ ((s.length : Int) + 1 + 1 + 1 + 1 < 2) := by omega
    go_enter Tryz.func142, Tryz.ntmps142
    go_wp2_with fail
    go_ret
    exact ⟨_, rfl, rfl, (Below.refl _ _).alloc (Nat.le_refl _) _⟩
end Go.Proofs.YtmmnkoeajdeldaaGreatDoor
namespace Go.Proofs.YtmmnkoeajdeldaaGreatDoor.Pl
set_option linter.unusedVariables false
set_option linter.unusedSimpArgs false
theorem tokD_tok {l : List UInt8} {d : Dt} {n : Nat} (h : tokD l = some (d, n)) : ∃ t, tokN l = some (t, n) ∧ TkR t d := by
  have hr := tok_rel l
  cases hT : tokN l with
  | none => rw [hT] at hr; simp only at hr; rw [hr] at h; cases h
  | some y =>
    obtain ⟨t, m⟩ := y
    rw [hT] at hr
    obtain ⟨d', hd, hk⟩ := hr
    rw [hd] at h
    cases h
    exact ⟨t, rfl, hk⟩
theorem tokD_pos {l : List UInt8} {d : Dt} {n : Nat} (h : tokD l = some (d, n)) : 1 ≤ n ∧ n ≤ l.length := by
  obtain ⟨t, ht, _⟩ := tokD_tok h
  exact tok_pos ht
theorem toksDF_fuel : ∀ (f g : Nat) (l : List UInt8), l.length ≤ f → l.length ≤ g → toksDF f l = toksDF g l
  | 0, 0, l, _, _ => rfl
  | 0, g + 1, l, h, _ => by have : l = [] := List.length_eq_zero_iff.1 (by omega); subst this; rfl
  | f + 1, 0, l, _, h => by have : l = [] := List.length_eq_zero_iff.1 (by omega); subst this; rfl
  | f + 1, g + 1, [], _, _ => rfl
  | f + 1, g + 1, c :: r, hf, hg => by
    rw [List.length_cons] at hf hg
    simp only [toksDF]
    rcases he : tokD (c :: r) with _ | ⟨x, n⟩
    · simp only
      rw [toksDF_fuel f g r (by omega) (by omega)]
    · have := tokD_pos he
      simp only
      rw [toksDF_fuel f g r (by omega) (by omega), toksDF_fuel f g ((c :: r).drop n) (by simp; omega) (by simp; omega)]
theorem toksD_cons (c : UInt8) (r : List UInt8) : toksD (c :: r) = if c.toNat = 35 then some []
    else if c.toNat = 32 ∨ c.toNat = 9 then toksD r
    else match tokD (c :: r) with
      | none => none
      | some (t, n) => (toksD ((c :: r).drop n)).map fun y => t :: y := by
  simp only [toksD, List.length_cons, toksDF]
  rcases he : tokD (c :: r) with _ | ⟨x, n⟩
  · rfl
  · have := tokD_pos he
    simp only
    rw [toksDF_fuel r.length ((c :: r).drop n).length ((c :: r).drop n) (by simp; omega) (by simp)]
theorem toksD_nil : toksD [] = some [] := rfl
/-- What is known of a token of a line of so many bytes. -/
structure DtOk (L : Nat) (d : Dt) : Prop where
  k : d.k < 256
  s : d.s.length ≤ L
  n : -1000000000000 ≤ d.n ∧ d.n ≤ 1000000000000
theorem DtOk.mono {L M : Nat} {d : Dt} (h : DtOk L d) (hm : L ≤ M) : DtOk M d := ⟨h.k, Nat.le_trans h.s hm, h.n⟩
theorem DtOk.nil (L : Nat) : DtOk L Dt.nil := ⟨by decide, Nat.zero_le _, by decide⟩
theorem kd_lt : ∀ k < 7, kd k < 256 := by decide
theorem dtOk_of {t : Tk} {d : Dt} {L : Nat} (h : TkR t d) (hs : t.s.length ≤ L) : DtOk L d :=
  ⟨by rw [h.k]; exact kd_lt _ h.lt, by rw [← h.s]; exact hs, by have := h.lo; have := h.hi; omega⟩
theorem tokD_ok {l : List UInt8} {d : Dt} {n : Nat} (h : tokD l = some (d, n)) : DtOk l.length d := by
  obtain ⟨t, ht, hr⟩ := tokD_tok h
  exact dtOk_of hr (tokN_s ht)
theorem TksR.mem : ∀ {a : List Tk} {b : List Dt}, TksR a b → ∀ d ∈ b, ∃ t ∈ a, TkR t d
  | [], [], _, d, h => by cases h
  | [], _ :: _, h, _, _ => h.elim
  | _ :: _, [], h, _, _ => h.elim
  | t :: a, e :: b, h, d, hd => by
    rcases List.mem_cons.1 hd with g | g
    · subst g; exact ⟨t, by simp, h.1⟩
    · obtain ⟨u, hu, hr⟩ := TksR.mem h.2 d g
      exact ⟨u, List.mem_cons_of_mem _ hu, hr⟩
theorem toksD_ok {l : List UInt8} {b : List Dt} (h : toksD l = some b) : ∀ d ∈ b, DtOk l.length d := by
  have ht := toks_rel l
  cases hT : toks l with
  | none => rw [hT] at ht; simp only at ht; rw [ht] at h; cases h
  | some a =>
    rw [hT] at ht
    obtain ⟨b', hb, hr⟩ := ht
    rw [hb] at h
    cases h
    intro d hd
    obtain ⟨t, htm, hk⟩ := hr.mem d hd
    exact dtOk_of hk (toksF_s l.length l a hT t htm)
theorem toksDF_len : ∀ (f : Nat) (l : List UInt8) (b : List Dt), toksDF f l = some b → b.length ≤ l.length
  | 0, l, b, h => by cases h; simp
  | f + 1, [], b, h => by cases h; simp
  | f + 1, c :: r, b, h => by
    simp only [toksDF] at h
    split at h
    · cases h; simp
    split at h
    · have := toksDF_len f r b h
      simp; omega
    · rcases hN : tokD (c :: r) with _ | ⟨u, n⟩
      · rw [hN] at h; cases h
      · rw [hN] at h
        simp only [Option.map_eq_some_iff] at h
        obtain ⟨y, hy, e⟩ := h
        subst e
        have h1 := toksDF_len f _ y hy
        have h2 := tokD_pos hN
        rw [List.length_drop] at h1
        simp only [List.length_cons] at h1 h2 ⊢
        omega
theorem toksD_len {l : List UInt8} {b : List Dt} (h : toksD l = some b) : b.length ≤ l.length := toksDF_len _ l b h
end Go.Proofs.YtmmnkoeajdeldaaGreatDoor.Pl
namespace Go.Proofs.YtmmnkoeajdeldaaGreatDoor
open Go.RowKit
set_option linter.unusedVariables false
set_option linter.unusedSimpArgs false
attribute [local go_sem] ba_get ba_cut ba_add
def dtC (d : Pl.Dt) : List Value := [.int .u8 (d.k : Int), .string ⟨d.s.toArray⟩, .int .i64 d.n, .bool d.big]
def dtsC (l : List Pl.Dt) : List Value := l.flatMap dtC
theorem dts_at (l : List Pl.Dt) (i j : Nat) (h : i < l.length) (hj : j < 4) : (dtsC l)[i * 4 + j]? = (dtC l[i])[j]? := by
  induction l generalizing i with
  | nil => simp at h
  | cons d r ih =>
    have e : dtsC (d :: r) = dtC d ++ dtsC r := rfl
    rw [e]
    cases i with
    | zero =>
      rw [Nat.zero_mul, Nat.zero_add, List.getElem?_append_left (by simpa [dtC] using hj)]
      rfl
    | succ i =>
      have := ih i (by simpa using h)
      rw [List.getElem?_append_right (by simp [dtC]; omega)]
      rw [show (i + 1) * 4 + j - (dtC d).length = i * 4 + j by simp [dtC]; omega]
      exact this
theorem own_lit2 (w : World) (base : Nat) (xs : List Value) (e : TypeId) (n : Nat) (hn : xs.length = n) (hb : base ≤ w.heap.size) (hm : n ≤ maxLen) : (w.alloc (.cells xs.toArray e)).ownsRow base e 1 (.slice (some ⟨w.heap.size, 0, none⟩) n n) n xs :=
  ⟨by omega, .inr ⟨w.heap.size, n, xs.toArray, rfl, hb, heap_alloc_new w _, Nat.le_refl _, hm, by simp [hn], by rw [Nat.mul_one]; simp [← hn]⟩⟩
set_option maxRecDepth 100000 in
theorem rkinds_any (A : Option Addr) (c : Nat) (l : List Pl.Dt) (w : World) (hr : Rd w 4 A l.length (dtsC l)) (hl : l.length ≤ 100000) (hk : ∀ d ∈ l, d.k < 256) : Calls Tryz.prog 117 #[.slice A l.length c] w (RetB (fun v _ => v = .string ⟨((Pl.dk l).map UInt8.ofNat).toArray⟩) w) := by
  obtain ⟨n, hn⟩ : ∃ n, l.length = n := ⟨_, rfl⟩
  rw [hn] at hr hl ⊢
  have HL := Lib.hid (And.intro hn (And.intro hr hk))
  clear hr hn hk
  go_enter Tryz.func117, Tryz.ntmps117
  go_wp2_with fail
  go_loopw [3, 4] (fun v i wr => ∃ (k : Nat) (bl : List UInt8), k ≤ n ∧ i = .int .i64 (k : Int) ∧ bl.length = k ∧ wr.ownsRow w.heap.size 5 1 v bl.length (u8C bl) ∧ Below w.heap.size w wr ∧ Hid (bl = (Pl.dk (l.take k)).map UInt8.ofNat)) (fun _ i _ => n - (intOf i).toNat)
  case atStart => exact ⟨0, [], by omega, rfl, rfl, own_lit2 w w.heap.size [] 5 0 rfl (Nat.le_refl _) (by decide), (Below.refl _ _).alloc (Nat.le_refl _) _, Lib.hid rfl⟩
  case round =>
    obtain ⟨k, bl, hk, rfl, hbl, hown, hbw, HB⟩ := hrel
    obtain ⟨vA, vc, rfl⟩ := own_form' hown
    by_cases hkn : k < n
    · have hkl : k < l.length := by rw [HL.out.1]; exact hkn
      obtain ⟨b, off, hAe, hb, hcs⟩ := (HL.out.2.1.below hbw).all (by omega)
      subst hAe
      have hlen : (dtsC l).length = n * 4 := by have := HL.out.2.1.1; omega
      have hcell := hcs (k * 4) (by rw [hlen]; omega)
      have h4 := dts_at l k 0 hkl (by omega)
      rw [Nat.add_zero] at h4
      rw [h4] at hcell
      have hc2 : (dtC l[k])[0]? = some (.int .u8 (l[k].k : Int)) := rfl
      rw [hc2] at hcell
      have hkd := HL.out.2.2 l[k] (List.getElem_mem hkl)
      have htk : (Pl.dk (l.take (k + 1))).map UInt8.ofNat = (Pl.dk (l.take k)).map UInt8.ofNat ++ [UInt8.ofNat l[k].k] := by
        unfold Pl.dk; rw [List.take_succ_eq_append_getElem hkl, List.map_append, List.map_append]; rfl
      obtain ⟨q, hq⟩ : ∃ q, l[k].k = q := ⟨_, rfl⟩
      rw [hq] at hcell hkd htk
      have hqt : (UInt8.ofNat q).toNat = q := by simp; omega
      have hhi := hbw.size
      have HN := Lib.hid (And.intro hown (And.intro hbw (And.intro hhi (And.intro htk hqt))))
      clear hown hbw hhi htk hqt hq h4 hc2 hcs hlen
      go_wp2_with (at_builtin; refine push_one rfl (.tmp 12) (.tmp 18) 59 rfl w.heap.size 5 (.int .u8 0) 1 Tryz.underlying59 info_u8b rfl wr _ _ _ (.int .u8 (q : Int)) rfl HN.out.1 rfl rfl (by omega) (by omega) HN.out.2.2.1 ?_; intro v1 w1 hown1 hb1; have HO := Lib.hid (And.intro hown1 hb1); clear hown1 hb1)
      refine ⟨⟨k + 1, bl ++ [UInt8.ofNat q], by omega, ret_i (by omega), by simp; omega, ?_, HN.out.2.1.trans HO.out.2, Lib.hid ?_⟩, by simp only [intOf]; omega⟩
      · have h := HO.out.1
        rw [List.length_append]
        rw [show (.int .u8 (q : Int) : Value) = .int .u8 ((UInt8.ofNat q).toNat : Int) by rw [HN.out.2.2.2.2]] at h
        simpa [u8C] using h
      · rw [HB.out, HN.out.2.2.2.1]
    · have hbe : bl = (Pl.dk l).map UInt8.ofNat := by rw [HB.out, List.take_of_length_le (by rw [HL.out.1]; omega)]
      have hcv := own_conv hown
      have HC := Lib.hid (And.intro hbw hbe)
      clear hbw hbe hbl
      go_wp2_with fail
      go_ret
      refine ⟨_, rfl, ?_, HC.out.1⟩
      show Value.string _ = Value.string _
      rw [HC.out.2]
/-- An item of the document: ten cells. -/
def itC (x : Pl.It) : List Value := [.int .i64 (x.kind : Int), .string ⟨x.name.toArray⟩, .int .u8 (x.x.op : Int), .int .u8 (x.x.a : Int), .int .u8 (x.x.b : Int), .int .u8 (x.x.c : Int), .int .i32 x.x.imm, .int .i64 x.n, .string ⟨x.s.toArray⟩, .int .i64 (x.e : Int)]
def itV (x : Pl.It) : Value := .agg (itC x).toArray
set_option maxRecDepth 100000 in
theorem rwordsOf_any (x : Pl.It) (w : World) : Calls Tryz.prog 123 #[itV x] w (RetB (fun v _ => v = .int .i64 (Pl.wordsOfD x : Nat)) w) := by
  obtain ⟨k, nm, ⟨op, a, b, c, imm⟩, n, s, e⟩ := x
  unfold Pl.wordsOfD itV itC
  simp only
  by_cases h2 : k = 2
  · have e2 : ((k : Int) == 2) = true := by rw [beq_iff_eq]; omega
    rw [if_pos (.inl h2)]
    clear h2
    go_enter Tryz.func123, Tryz.ntmps123
    go_wp2_with fail
    go_ret
    exact ⟨_, rfl, rfl, (Below.refl _ _).alloc (Nat.le_refl _) _⟩
  have e2 : ((k : Int) == 2) = false := by rw [beq_eq_false_iff_ne]; omega
  by_cases h4 : k = 4
  · have e4 : ((k : Int) == 4) = true := by rw [beq_iff_eq]; omega
    rw [if_pos (.inr h4)]
    clear h4 h2
    go_enter Tryz.func123, Tryz.ntmps123
    go_wp2_with fail
    go_ret
    exact ⟨_, rfl, rfl, (Below.refl _ _).alloc (Nat.le_refl _) _⟩
  have e4 : ((k : Int) == 4) = false := by rw [beq_eq_false_iff_ne]; omega
  rw [if_neg (by omega)]
  by_cases h3 : k = 3
  · have e3 : ((k : Int) == 3) = true := by rw [beq_iff_eq]; omega
    rw [if_pos h3]
    clear h3 h4 h2
    go_enter Tryz.func123, Tryz.ntmps123
    go_wp2_with fail
    go_ret
    exact ⟨_, rfl, rfl, (Below.refl _ _).alloc (Nat.le_refl _) _⟩
  · have e3 : ((k : Int) == 3) = false := by rw [beq_eq_false_iff_ne]; omega
    rw [if_neg h3]
    clear h3 h4 h2
    go_enter Tryz.func123, Tryz.ntmps123
    go_wp2_with fail
    go_ret
    exact ⟨_, rfl, rfl, (Below.refl _ _).alloc (Nat.le_refl _) _⟩
set_option maxRecDepth 100000 in
theorem rgives_any (x : Pl.It) (w : World) : Calls Tryz.prog 74 #[itV x] w (RetB (fun v _ => v = .bool x.gives) w) := by
  obtain ⟨k, nm, ⟨op, a, b, c, imm⟩, n, s, e⟩ := x
  unfold Pl.It.gives itV itC
  simp only
  by_cases h1 : k = 1
  · have e1 : ((k : Int) == 1) = true := by rw [beq_iff_eq]; omega
    have hr : (k == 1 || decide (5 ≤ k)) = true := by simp [h1]
    rw [hr]
    clear h1 hr
    go_enter Tryz.func74, Tryz.ntmps74
    go_wp2_with fail
    go_ret
    exact ⟨_, rfl, rfl, (Below.refl _ _).alloc (Nat.le_refl _) _⟩
  have e1 : ((k : Int) == 1) = false := by rw [beq_eq_false_iff_ne]; omega
  by_cases h5 : 5 ≤ k
  · have e5 : (5 : Int) ≤ (k : Int) := by omega
    have hr : (k == 1 || decide (5 ≤ k)) = true := by simp [h5]
    rw [hr]
    clear h1 hr h5
    go_enter Tryz.func74, Tryz.ntmps74
    go_wp2_with fail
    go_ret
    exact ⟨_, rfl, rfl, (Below.refl _ _).alloc (Nat.le_refl _) _⟩
  · have e5 : ¬ (5 : Int) ≤ (k : Int) := by omega
    have hr : (k == 1 || decide (5 ≤ k)) = false := by simp [h5, h1]
    rw [hr]
    clear h1 hr h5
    go_enter Tryz.func74, Tryz.ntmps74
    go_wp2_with fail
    go_ret
    exact ⟨_, rfl, rfl, (Below.refl _ _).alloc (Nat.le_refl _) _⟩
end Go.Proofs.YtmmnkoeajdeldaaGreatDoor
namespace Go.Proofs.YtmmnkoeajdeldaaGreatDoor
open Go.RowKit
set_option linter.unusedVariables false
set_option linter.unusedSimpArgs false
attribute [local go_sem] ba_get ba_cut ba_add
theorem ix_nat (l : List UInt8) (k : Nat) (h : k < l.length) (i : Int) (hi : i = (k : Int)) (W : World) : (Instr.index 9 (.string ⟨l.toArray⟩) (.int .i64 i)).run Tryz.prog W = .ok (.int .u8 (l[k].toNat : Int)) W := by
  subst hi; simp [go_sem, h]
theorem hexN_lt {c : UInt8} {p : Nat} (h : Pl.hexN c = some p) : p < 16 := by
  unfold Pl.hexN Pl.digB at h
  split at h
  · next g => have := of_decide_eq_true g; cases h; omega
  · split at h
    · cases h; omega
    · cases h
theorem drop_two (l : List UInt8) (k : Nat) (h : k + 1 < l.length) : l.drop k = l[k] :: l[k + 1] :: l.drop (k + 2) := by
  rw [List.drop_eq_getElem_cons (by omega), List.drop_eq_getElem_cons h]
theorem esc_at (l : List UInt8) (k : Nat) (h : k < l.length) : Pl.esc (l.drop k) = if l[k].toNat = 34 ∨ l[k].toNat = 92 then some (l[k], 1) else if l[k].toNat = 110 then some (10, 1)
    else if l[k].toNat = 120 then (if h3 : k + 2 < l.length then (match Pl.hexN l[k + 1], Pl.hexN l[k + 2] with | some x, some y => some (UInt8.ofNat (16 * x + y), 3) | _, _ => none) else none) else none := by
  rw [List.drop_eq_getElem_cons h]
  unfold Pl.esc
  simp only
  split
  · rfl
  split
  · rfl
  split
  · by_cases h3 : k + 2 < l.length
    · rw [dif_pos h3, drop_two l (k + 1) h3]
      rfl
    · rw [dif_neg h3]
      rcases hd : l.drop (k + 1) with _ | ⟨a, _ | ⟨b, r⟩⟩
      · rfl
      · rfl
      · have := congrArg List.length hd
        simp at this
        omega
  · rfl
def quoV (o : Option (List UInt8 × Nat)) : Value := match o with
  | none => .tuple #[.string ⟨#[]⟩, .int .i64 0]
  | some y => .tuple #[.string ⟨y.1.toArray⟩, .int .i64 (y.2 : Int)]
set_option maxRecDepth 100000 in
set_option maxHeartbeats 4000000 in
theorem rquo_any (l : List UInt8) (hl : l.length ≤ 1000000) (h1l : 1 ≤ l.length) (w : World) :
    Calls Tryz.prog 111 #[.string ⟨l.toArray⟩] w (RetB (fun v _ => v = quoV ((Pl.quo (l.drop 1)).map fun y => (y.1, y.2 + 1))) w) := by
  obtain ⟨R, hR⟩ : ∃ R, (Pl.quo (l.drop 1)).map (fun y => (y.1, y.2 + 1)) = R := ⟨_, rfl⟩
  rw [hR]
  have HR := Lib.hid hR
  clear hR
  go_enter Tryz.func111, Tryz.ntmps111
  go_wp2_with fail
  go_loopw [4, 5] (fun v i wr => ∃ (k : Nat) (bl : List UInt8), 1 ≤ k ∧ k ≤ l.length ∧ bl.length ≤ k ∧ i = .int .i64 (k : Int) ∧ wr.ownsRow w.heap.size 5 1 v bl.length (u8C bl) ∧ Below w.heap.size w wr ∧ Hid ((Pl.quo (l.drop k)).map (fun y => (bl ++ y.1, k + y.2)) = R)) (fun _ i _ => l.length - (intOf i).toNat)
  case atStart =>
    refine ⟨1, [], by omega, by omega, by simp, rfl, own_lit2 w w.heap.size [] 5 0 rfl (Nat.le_refl _) (by decide), (Below.refl _ _).alloc (Nat.le_refl _) _, Lib.hid ?_⟩
    rw [← HR.out]
    congr 1
    funext y
    rw [Nat.add_comm 1 y.2, List.nil_append]
  case round =>
    obtain ⟨k, bl, hk1, hk2, hbl, rfl, hown, hbw, HK⟩ := hrel
    obtain ⟨vA, vc, rfl⟩ := own_form' hown
    have hhi := hbw.size
    by_cases hkl : k < l.length
    · have hcons : Pl.quo (l.drop k) = Pl.quo (l[k] :: l.drop (k + 1)) := by rw [List.drop_eq_getElem_cons hkl]
      rw [Pl.quo_cons] at hcons
      have hix := fun W => ix_nat l k hkl (k : Int) rfl W
      obtain ⟨c, hc⟩ : ∃ c, l[k] = c := ⟨_, rfl⟩
      rw [hc] at hcons hix
      have HK2 := HK.out
      rw [hcons] at HK2
      have hcl := c.toNat_lt
      obtain ⟨x, hx⟩ : ∃ x, c.toNat = x := ⟨_, rfl⟩
      rw [hx] at hix hcl HK2
      have HX := Lib.hid (And.intro hown (And.intro hbw (And.intro hhi hx)))
      clear hcons HK hc hx hown hbw hhi
      by_cases h1 : x = 34
      · rw [if_pos h1] at HK2
        subst h1
        have hcv := own_conv HX.out.1
        have hRn : R = some (bl, k + 1) := by rw [← HK2]; simp
        have HN := Lib.hid hRn
        clear HK2 hRn
        go_wp2_with fail
        go_ret2
        refine ⟨_, rfl, ?_, HX.out.2.1⟩
        rw [HN.out]
        rfl
      rw [if_neg h1] at HK2
      have e1 : ((x : Int) == 34) = false := by rw [beq_eq_false_iff_ne]; omega
      by_cases h3 : 32 ≤ x ∧ x ≤ 126
      case neg =>
        have hRn : R = none := by
          rw [← HK2]
          by_cases h2 : x = 92
          · exact absurd (by omega) h3
          · rw [if_neg h2, if_neg h3]; rfl
        have HN := Lib.hid hRn
        clear HK2 h1 hRn
        rcases Nat.lt_or_ge x 32 with g | g
        · clear h3
          go_wp2_with fail
          go_ret2
          refine ⟨_, rfl, ?_, HX.out.2.1⟩
          rw [HN.out]
          rfl
        · have g2 : 126 < x := by omega
          clear h3
          go_wp2_with fail
          go_ret2
          refine ⟨_, rfl, ?_, HX.out.2.1⟩
          rw [HN.out]
          rfl
      obtain ⟨g1, g2⟩ := h3
      by_cases h2 : x = 92
      case neg =>
        rw [if_neg h2, if_pos ⟨g1, g2⟩] at HK2
        have e2 : ((x : Int) != 92) = true := by rw [bne_iff_ne]; omega
        have HN := Lib.hid HK2
        clear h1 h2 HK2
        go_wp2_with (at_builtin; refine push_one rfl (.tmp 29) (.tmp 31) 59 rfl w.heap.size 5 (.int .u8 0) 1 Tryz.underlying59 info_u8b rfl wr _ _ _ (.int .u8 (x : Int)) rfl HX.out.1 rfl rfl (by omega) (by omega) HX.out.2.2.1 ?_; intro v1 w1 hown1 hb1; have HO := Lib.hid (And.intro hown1 hb1); clear hown1 hb1)
        refine ⟨⟨k + 1, bl ++ [c], by omega, by omega, by simp; omega, ret_i (by omega), ?_, HX.out.2.1.trans HO.out.2, Lib.hid ?_⟩, by simp only [intOf]; omega⟩
        · have h := HO.out.1
          rw [← HX.out.2.2.2] at h
          rw [List.length_append]
          simpa [u8C] using h
        · rw [← HN.out, Option.map_map]
          congr 1
          funext y
          simp only [Function.comp, List.append_assoc, List.singleton_append]
          rw [show k + 1 + y.2 = k + (1 + y.2) by omega]
      rw [if_pos h2] at HK2
      subst h2
      clear h1 e1
      by_cases hk3 : k + 1 < l.length
      case neg =>
        rw [List.drop_eq_nil_of_le (by omega)] at HK2
        have HN := Lib.hid (show R = none from HK2.symm)
        clear HK2
        go_wp2_with fail
        go_ret2
        refine ⟨_, rfl, ?_, HX.out.2.1⟩
        rw [HN.out]
        rfl
      rw [esc_at l (k + 1) hk3] at HK2
      have hix1 := fun W => ix_nat l (k + 1) hk3 ((k : Int) + 1) (by omega) W
      obtain ⟨d, hd⟩ : ∃ d, l[k + 1] = d := ⟨_, rfl⟩
      rw [hd] at hix1 HK2
      have hdl := d.toNat_lt
      obtain ⟨y, hy⟩ : ∃ y, d.toNat = y := ⟨_, rfl⟩
      rw [hy] at hix1 hdl HK2
      have HY := Lib.hid hy
      clear hd hy
      by_cases hy34 : y = 34
      · rw [if_pos (.inl hy34)] at HK2
        subst hy34
        have HN := Lib.hid HK2
        clear HK2
        go_wp2_with (at_builtin; refine push_one rfl (.tmp 54) (.tmp 59) 59 rfl w.heap.size 5 (.int .u8 0) 1 Tryz.underlying59 info_u8b rfl wr _ _ _ (.int .u8 34) rfl HX.out.1 rfl rfl (by omega) (by omega) HX.out.2.2.1 ?_; intro v1 w1 hown1 hb1; have HO := Lib.hid (And.intro hown1 hb1); clear hown1 hb1)
        refine ⟨⟨k + 1 + 1, bl ++ [d], by omega, by omega, by simp; omega, ret_i (by omega), ?_, HX.out.2.1.trans HO.out.2, Lib.hid ?_⟩, by simp only [intOf]; omega⟩
        · have h := HO.out.1
          rw [show (.int .u8 34 : Value) = .int .u8 (d.toNat : Int) by rw [HY.out]; rfl] at h
          rw [List.length_append]
          simpa [u8C] using h
        · rw [← HN.out]
          simp only [Option.map_map]
          rw [List.drop_drop]
          congr 1
          funext z
          simp only [Function.comp, List.append_assoc, List.singleton_append]
          rw [show k + 1 + 1 + z.2 = k + (1 + 1 + z.2) by omega]
      have ey34 : ((y : Int) == 34) = false := by rw [beq_eq_false_iff_ne]; omega
      by_cases hy92 : y = 92
      · rw [if_pos (.inr hy92)] at HK2
        subst hy92
        have HN := Lib.hid HK2
        clear HK2 hy34
        go_wp2_with (at_builtin; refine push_one rfl (.tmp 54) (.tmp 59) 59 rfl w.heap.size 5 (.int .u8 0) 1 Tryz.underlying59 info_u8b rfl wr _ _ _ (.int .u8 92) rfl HX.out.1 rfl rfl (by omega) (by omega) HX.out.2.2.1 ?_; intro v1 w1 hown1 hb1; have HO := Lib.hid (And.intro hown1 hb1); clear hown1 hb1)
        refine ⟨⟨k + 1 + 1, bl ++ [d], by omega, by omega, by simp; omega, ret_i (by omega), ?_, HX.out.2.1.trans HO.out.2, Lib.hid ?_⟩, by simp only [intOf]; omega⟩
        · have h := HO.out.1
          rw [show (.int .u8 92 : Value) = .int .u8 (d.toNat : Int) by rw [HY.out]; rfl] at h
          rw [List.length_append]
          simpa [u8C] using h
        · rw [← HN.out]
          simp only [Option.map_map]
          rw [List.drop_drop]
          congr 1
          funext z
          simp only [Function.comp, List.append_assoc, List.singleton_append]
          rw [show k + 1 + 1 + z.2 = k + (1 + 1 + z.2) by omega]
      have ey92 : ((y : Int) == 92) = false := by rw [beq_eq_false_iff_ne]; omega
      rw [if_neg (by omega)] at HK2
      by_cases hy110 : y = 110
      · rw [if_pos hy110] at HK2
        subst hy110
        have HN := Lib.hid HK2
        clear HK2 hy34 hy92
        go_wp2_with (at_builtin; refine push_one rfl (.tmp 75) (.tmp 76) 59 rfl w.heap.size 5 (.int .u8 0) 1 Tryz.underlying59 info_u8b rfl wr _ _ _ (.int .u8 10) rfl HX.out.1 rfl rfl (by omega) (by omega) HX.out.2.2.1 ?_; intro v1 w1 hown1 hb1; have HO := Lib.hid (And.intro hown1 hb1); clear hown1 hb1)
        refine ⟨⟨k + 1 + 1, bl ++ [10], by omega, by omega, by simp; omega, ret_i (by omega), ?_, HX.out.2.1.trans HO.out.2, Lib.hid ?_⟩, by simp only [intOf]; omega⟩
        · have h := HO.out.1
          skip
          rw [List.length_append]
          simpa [u8C] using h
        · rw [← HN.out]
          simp only [Option.map_map]
          rw [List.drop_drop]
          congr 1
          funext z
          simp only [Function.comp, List.append_assoc, List.singleton_append]
          rw [show k + 1 + 1 + z.2 = k + (1 + 1 + z.2) by omega]
      have ey110 : ((y : Int) == 110) = false := by rw [beq_eq_false_iff_ne]; omega
      rw [if_neg hy110] at HK2
      clear hy34 hy92 hy110
      by_cases hy120 : y = 120
      case neg =>
        rw [if_neg hy120] at HK2
        have ey120 : ((y : Int) == 120) = false := by rw [beq_eq_false_iff_ne]; omega
        have HN := Lib.hid (show R = none from HK2.symm)
        clear HK2 hy120
        rcases Nat.lt_or_ge (k + 3) l.length with g | g
        all_goals
          go_wp2_with fail
          go_ret2
          refine ⟨_, rfl, ?_, HX.out.2.1⟩
          rw [HN.out]
          rfl
      rw [if_pos hy120] at HK2
      subst hy120
      clear ey34 ey92 ey110
      by_cases hk4 : k + 3 < l.length
      case neg =>
        rw [dif_neg (by omega)] at HK2
        have HN := Lib.hid (show R = none from HK2.symm)
        clear HK2
        go_wp2_with fail
        go_ret2
        refine ⟨_, rfl, ?_, HX.out.2.1⟩
        rw [HN.out]
        rfl
      rw [dif_pos (by omega)] at HK2
      simp only [show k + 1 + 1 = k + 2 by omega, show k + 1 + 2 = k + 3 by omega] at HK2
      have hix2 := fun W => ix_nat l (k + 2) (by omega) ((k : Int) + 2) (by omega) W
      have hix3 := fun W => ix_nat l (k + 3) hk4 ((k : Int) + 3) (by omega) W
      obtain ⟨ca, hca⟩ : ∃ d, l[k + 2] = d := ⟨_, rfl⟩
      obtain ⟨cb, hcb⟩ : ∃ d, l[k + 3] = d := ⟨_, rfl⟩
      rw [hca] at hix2 HK2
      rw [hcb] at hix3 HK2
      have hla := ca.toNat_lt
      have hlb := cb.toNat_lt
      have HHa := fun W => rhex_any ca W
      have HHb := fun W => rhex_any cb W
      have hpa := @hexN_lt ca
      have hpb := @hexN_lt cb
      obtain ⟨oa, hoa⟩ : ∃ o, Pl.hexN ca = o := ⟨_, rfl⟩
      obtain ⟨ob, hob⟩ : ∃ o, Pl.hexN cb = o := ⟨_, rfl⟩
      rw [hoa] at HHa HK2 hpa
      rw [hob] at HHb HK2 hpb
      obtain ⟨xa, hxa⟩ : ∃ d, ca.toNat = d := ⟨_, rfl⟩
      obtain ⟨xb, hxb⟩ : ∃ d, cb.toNat = d := ⟨_, rfl⟩
      rw [hxa] at hix2 HHa hla
      rw [hxb] at hix3 HHb hlb
      have HA := Lib.hid HHa
      have HB := Lib.hid HHb
      clear hca hcb hoa hob hxa hxb HHa HHb
      rcases oa with _ | p
      · have HN := Lib.hid (show R = none from by rw [← HK2]; cases ob <;> rfl)
        clear HK2 hpa hpb
        go_wp2_with fail
        (with_reducible refine (HA.out _).mono ?_)
        rintro e w2 ⟨rfl, rfl⟩
        simp only [Option.getD_none]
        go_wp2_with fail
        go_ret2
        refine ⟨_, rfl, ?_, HX.out.2.1⟩
        rw [HN.out]
        rfl
      have hp := hpa rfl
      clear hpa
      simp only [Option.getD_some] at HA
      rcases ob with _ | q
      · have HN := Lib.hid (show R = none from HK2.symm)
        clear HK2 hpb
        go_wp2_with fail
        (with_reducible refine (HA.out _).mono ?_)
        rintro e w2 ⟨rfl, rfl⟩
        go_wp2_with fail
        (with_reducible refine (HB.out _).mono ?_)
        rintro e w2 ⟨rfl, rfl⟩
        simp only [Option.getD_none]
        go_wp2_with fail
        go_ret2
        refine ⟨_, rfl, ?_, HX.out.2.1⟩
        rw [HN.out]
        rfl
      have hqb := hpb rfl
      clear hpb
      simp only [Option.getD_some] at HB
      have HN := Lib.hid HK2
      clear HK2
      go_wp2_with fail
      (with_reducible refine (HA.out _).mono ?_)
      rintro e w2 ⟨rfl, rfl⟩
      go_wp2_with fail
      (with_reducible refine (HB.out _).mono ?_)
      rintro e w2 ⟨rfl, rfl⟩
      have hw16 : IntKind.u8.wrap (16 * (p : Int)) = 16 * (p : Int) := by rw [IntKind.wrap_u8]; omega
      have hws : IntKind.u8.wrap (16 * (p : Int) + (q : Int)) = 16 * (p : Int) + (q : Int) := by rw [IntKind.wrap_u8]; omega
      have hwk2 : IntKind.i64.wrap ((k : Int) + 2) = (k : Int) + 2 := IntWalk.i64_in _ (by omega)
      have hwk3 : IntKind.i64.wrap ((k : Int) + 3) = (k : Int) + 3 := IntWalk.i64_in _ (by omega)
      go_upto_region 19 with (fail)
      refine wp_region_held_drew (S := (fun _ => True)) (by kernel_rfl) trivial (fun hHeld => ?_)
      refine wpAnyH_take (i := 0) (v := ?_) rfl (by kernel_rfl) (by kernel_rfl) (by kernel_rfl) (fun _ _ _ h => h) (Or.inl ⟨by kernel_rfl, ?_⟩) hHeld ?_
      rotate_left
      · (intro w' hSw; (try dsimp only at hSw); go_simp; try with_reducible rfl)
      simp only [Act.put, lay8]
      refine wpAnyH_take (i := 1) (v := ?_) rfl (by kernel_rfl) (by kernel_rfl) (by kernel_rfl) (fun _ _ _ h => h) (Or.inl ⟨by kernel_rfl, ?_⟩) hHeld ?_
      rotate_left
      · (intro w' hSw; (try dsimp only at hSw); go_simp; try with_reducible rfl)
      simp only [Act.put, lay8]
      refine wpAnyH_take (i := 2) (v := ?_) rfl (by kernel_rfl) (by kernel_rfl) (by kernel_rfl) (fun _ _ _ h => h) (Or.inl ⟨by kernel_rfl, ?_⟩) hHeld ?_
      rotate_left
      · (intro w' hSw; (try dsimp only at hSw); go_simp; try with_reducible rfl)
      simp only [Act.put, lay8]
      refine wpAnyH_take (i := 3) (v := ?_) rfl (by kernel_rfl) (by kernel_rfl) (by kernel_rfl) (fun _ _ _ h => h) (Or.inl ⟨by kernel_rfl, ?_⟩) hHeld ?_
      rotate_left
      · (intro w' hSw; (try dsimp only at hSw); go_simp; try with_reducible rfl)
      simp only [Act.put, lay8]
      refine wpAnyH_take (i := 4) (v := ?_) rfl (by kernel_rfl) (by kernel_rfl) (by kernel_rfl) (fun _ _ _ h => h) (Or.inl ⟨by kernel_rfl, ?_⟩) hHeld ?_
      rotate_left
      · (intro w' hSw; (try dsimp only at hSw); go_simp; try with_reducible rfl)
      simp only [Act.put, lay8]
      refine still_take (i := 5) (v := (.int .u8 (p : Int))) rfl (by kernel_rfl) (fun _ _ _ h => h) _ _ _ _ (by kernel_rfl) (by kernel_rfl) ⟨by rfl, _, _, fun w' hSw => ⟨?_, (HA.out w')⟩⟩ hHeld ?_
      · (try dsimp only at hSw); go_simp; try with_reducible rfl
      simp only [Act.put, lay8]
      refine wpAnyH_take (i := 6) (v := ?_) rfl (by kernel_rfl) (by kernel_rfl) (by kernel_rfl) (fun _ _ _ h => h) (Or.inl ⟨by kernel_rfl, ?_⟩) hHeld ?_
      rotate_left
      · (intro w' hSw; (try dsimp only at hSw); go_simp; try with_reducible rfl)
      simp only [Act.put, lay8]
      refine wpAnyH_take (i := 7) (v := ?_) rfl (by kernel_rfl) (by kernel_rfl) (by kernel_rfl) (fun _ _ _ h => h) (Or.inl ⟨by kernel_rfl, ?_⟩) hHeld ?_
      rotate_left
      · (intro w' hSw; (try dsimp only at hSw); go_simp; try with_reducible rfl)
      simp only [Act.put, lay8]
      refine wpAnyH_take (i := 8) (v := ?_) rfl (by kernel_rfl) (by kernel_rfl) (by kernel_rfl) (fun _ _ _ h => h) (Or.inl ⟨by kernel_rfl, ?_⟩) hHeld ?_
      rotate_left
      · (intro w' hSw; (try dsimp only at hSw); go_simp; try with_reducible rfl)
      simp only [Act.put, lay8]
      refine wpAnyH_take (i := 9) (v := ?_) rfl (by kernel_rfl) (by kernel_rfl) (by kernel_rfl) (fun _ _ _ h => h) (Or.inl ⟨by kernel_rfl, ?_⟩) hHeld ?_
      rotate_left
      · (intro w' hSw; (try dsimp only at hSw); go_simp; try with_reducible rfl)
      simp only [Act.put, lay8]
      refine wpAnyH_take (i := 10) (v := ?_) rfl (by kernel_rfl) (by kernel_rfl) (by kernel_rfl) (fun _ _ _ h => h) (Or.inl ⟨by kernel_rfl, ?_⟩) hHeld ?_
      rotate_left
      · (intro w' hSw; (try dsimp only at hSw); go_simp; try with_reducible rfl)
      simp only [Act.put, lay8]
      refine still_take (i := 11) (v := (.int .u8 (q : Int))) rfl (by kernel_rfl) (fun _ _ _ h => h) _ _ _ _ (by kernel_rfl) (by kernel_rfl) ⟨by rfl, _, _, fun w' hSw => ⟨?_, (HB.out w')⟩⟩ hHeld ?_
      · (try dsimp only at hSw); go_simp; try with_reducible rfl
      simp only [Act.put, lay8]
      refine wpAnyH_take (i := 12) (v := ?_) rfl (by kernel_rfl) (by kernel_rfl) (by kernel_rfl) (fun _ _ _ h => h) (Or.inl ⟨by kernel_rfl, ?_⟩) hHeld ?_
      rotate_left
      · (intro w' hSw; (try dsimp only at hSw); go_simp; try with_reducible rfl)
      simp only [Act.put, lay8]
      refine wpAnyH_ready (rs := [13]) (by kernel_rfl) (by simp) (AllReadyH.cons rfl (fun K hK => ?_) AllReadyH.nil)
      go_simp
      refine hK.out _ _ trivial (fun hHeld => ?_)
      clear hK K
      (try simp only [Act.put, lay8])
      refine wpAnyH_ready (rs := [14]) (by kernel_rfl) (by simp) (AllReadyH.cons rfl (fun K hK => ?_) AllReadyH.nil)
      refine step_push_a rfl (.tmp 108) (.tmp 121) 59 rfl w.heap.size 5 (.int .u8 0) 1 1 Tryz.underlying59 info_u8b rfl (by decide) _ _ _ _ (some ⟨wr.heap.size, 0, none⟩) 1 1 [.int .u8 (16 * (p : Int) + (q : Int))] rfl ((HX.out.1.alloc _).drew) rfl (Rd.new wr _ _).drew (fun e => by cases e) (by intro u hu; simp at hu; subst hu; rfl) (by omega) (by decide) (by simp; exact Nat.le_succ_of_le HX.out.2.2.1) ?_
      intro v' W4 hown4 hb4 hblk
      refine hK.out _ _ trivial (fun hHeld => ?_)
      clear hK K
      (try simp only [Act.put, lay8])
      refine wpAnyH_take (i := 15) (v := ?_) rfl (by kernel_rfl) (by kernel_rfl) (by kernel_rfl) (fun _ _ _ h => h) (Or.inl ⟨by kernel_rfl, ?_⟩) hHeld ?_
      rotate_left
      · (intro w' hSw; (try dsimp only at hSw); go_simp; try with_reducible rfl)
      simp only [Act.put, lay8]
      refine wpAnyH_done (by kernel_rfl) ?_ _
      go_wp2_with fail
      have hb1 : Below w.heap.size wr ((wr.alloc (.cells #[.int .u8 (16 * (p : Int) + (q : Int))] 5)).drew) := ((Below.refl _ _).alloc HX.out.2.2.1 _).drew
      refine ⟨⟨k + 1 + 3, bl ++ [UInt8.ofNat (16 * p + q)], by omega, by omega, by simp; omega, ret_i (by omega), ?_, HX.out.2.1.trans (hb1.trans hb4), Lib.hid ?_⟩, by simp only [intOf]; omega⟩
      · rw [List.length_append]
        have hv : (UInt8.ofNat (16 * p + q)).toNat = 16 * p + q := by simp; omega
        have h := hown4
        rw [show (.int .u8 (16 * (p : Int) + (q : Int)) : Value) = .int .u8 ((UInt8.ofNat (16 * p + q)).toNat : Int) by rw [hv]; exact ret_i (by omega)] at h
        simpa [u8C] using h
      · rw [← HN.out]
        simp only [Option.map_map]
        rw [List.drop_drop]
        congr 1
        funext z
        simp only [Function.comp, List.append_assoc, List.singleton_append]
        rw [show k + 1 + 3 + z.2 = k + (1 + 3 + z.2) by omega]
    · have HN := Lib.hid (show R = none from by rw [← HK.out, List.drop_eq_nil_of_le (by omega), Pl.quo_nil]; rfl)
      have HX := Lib.hid hbw
      clear HK hbw hhi hown
      go_wp2_with fail
      go_ret2
      refine ⟨_, rfl, ?_, HX.out⟩
      rw [HN.out]
      rfl
end Go.Proofs.YtmmnkoeajdeldaaGreatDoor
namespace Go.Proofs.YtmmnkoeajdeldaaGreatDoor
open Go.RowKit
set_option linter.unusedVariables false
set_option linter.unusedSimpArgs false
attribute [local go_sem] ba_get ba_cut ba_add
/-- The cells of a number's token. -/
def ntC (n : Int) (b : Bool) : List Value := [.int .u8 110, .string ⟨#[]⟩, .int .i64 n, .bool b]
theorem info_tok : (Tryz.prog.info? 164).map (·.size) = some 4 := by kernel_rfl
theorem ntC_set2 (n m : Int) (b : Bool) : (ntC n b).toArray.setIfInBounds 2 (.int .i64 m) = (ntC m b).toArray := rfl
theorem ntC_set3 (n : Int) (b : Bool) : (ntC n b).toArray.setIfInBounds 3 (.bool true) = (ntC n true).toArray := rfl
set_option maxRecDepth 100000 in
set_option maxHeartbeats 4000000 in
theorem rnumber_any (l : List UInt8) (hl : l.length ≤ 1000000) (h0 : l ≠ []) (hd : ∀ c ∈ (if l.head? = some 45 then l.drop 1 else l), Pl.digB c = true) (w : World) :
    Calls Tryz.prog 115 #[.string ⟨l.toArray⟩] w (RetB (fun v _ => v = dtV (Pl.numD l)) w) := by
  have hlp : 0 < l.length := List.length_pos_iff.2 h0
  obtain ⟨c, hc⟩ : ∃ c, l[0] = c := ⟨_, rfl⟩
  have hhd : l.head? = some c := by rw [← hc]; cases l with
    | nil => exact absurd rfl h0
    | cons a r => rfl
  have hix0 : ∀ W', (Instr.index 9 (.string ⟨l.toArray⟩) (.int .i64 0)).run Tryz.prog W' = .ok (.int .u8 (c.toNat : Int)) W' := by
    intro W'
    rw [← hc]
    simp [go_sem, hlp]
  obtain ⟨R, hR⟩ : ∃ R, Pl.numD l = R := ⟨_, rfl⟩
  rw [hR]
  unfold Pl.numD at hR
  rw [hhd] at hR hd
  have hcl := c.toNat_lt
  obtain ⟨sg, hsg⟩ : ∃ sg : Nat, (if c = 45 then 1 else 0) = sg := ⟨_, rfl⟩
  have hdig : ∀ k, sg ≤ k → ∀ h : k < l.length, Pl.digB l[k] = true := by
    intro k hk h
    by_cases h45 : c = 45
    · rw [if_pos h45] at hsg
      rw [if_pos (by rw [h45])] at hd
      refine hd _ ?_
      rw [List.mem_iff_getElem?]
      exact ⟨k - 1, by rw [List.getElem?_drop, show 1 + (k - 1) = k by omega, List.getElem?_eq_getElem h]⟩
    · rw [if_neg (by intro e; injection e with e; exact h45 e)] at hd
      exact hd _ (List.getElem_mem h)
  obtain ⟨⟨rn, rb⟩, hF⟩ : ∃ F, Pl.numF (l.drop sg) 0 false = F := ⟨_, rfl⟩
  have HF2 : Hid (R = ⟨110, [], if sg = 1 then -rn else rn, rb⟩) := by
    refine Lib.hid ?_
    rw [← hR]
    by_cases h45 : c = 45
    · rw [if_pos h45] at hsg
      rw [if_pos (by rw [h45])]
      subst hsg
      rw [hF, if_pos rfl]
    · rw [if_neg h45] at hsg
      rw [if_neg (by intro e; injection e with e; exact h45 e)]
      subst hsg
      rw [List.drop_zero] at hF
      rw [hF, if_neg (by omega)]
  have HF := Lib.hid (And.intro hdig hF)
  have h45 : (c.toNat = 45 ∧ sg = 1) ∨ (c.toNat ≠ 45 ∧ sg = 0) := by
    by_cases h : c = 45
    · rw [if_pos h] at hsg; exact .inl ⟨by rw [h]; rfl, hsg.symm⟩
    · rw [if_neg h] at hsg; exact .inr ⟨fun e => h (UInt8.toNat.inj e), hsg.symm⟩
  clear hR hF hd hdig hhd hsg h0 hc
  obtain ⟨c0, hc0⟩ : ∃ x, c.toNat = x := ⟨_, rfl⟩
  rw [hc0] at hix0 hcl h45
  clear hc0
  rcases h45 with ⟨h45, rfl⟩ | ⟨h45, rfl⟩
  ·
    have e1 : ((c0 : Int) == 45) = true := by rw [beq_iff_eq]; omega
    clear h45
    go_enter Tryz.func115, Tryz.ntmps115
    go_upto_region 3 with (fail)
    obtain ⟨B0, hB0⟩ : ∃ B, w.heap.size = B := ⟨_, rfl⟩
    generalize hW : World.alloc (World.alloc w _) _ = W1
    have hz1 : W1.heap[B0 + 1]? = some (.cells (ntC 0 false).toArray 164 (0, 0)) := by rw [← hW, ← hB0]; exact heap_alloc_2 _ _ _
    have hz0 : W1.heap[B0]? = some (.cells #[.int .u8 0, .string ⟨#[]⟩, .int .i64 0, .bool false] 164 (0, 0)) := by
      rw [← hW, ← hB0, Below.heap_alloc _ _ _ (by simp)]; exact heap_alloc_new _ _
    have hb1 : Below B0 w W1 := by rw [← hW, ← hB0]; exact ((Below.refl _ _).alloc (Nat.le_refl _) _).alloc (by simp) _
    have H1 := Lib.hid (And.intro hz1 (And.intro hz0 hb1))
    clear hW hz1 hz0 hb1
    obtain ⟨B1, hB1⟩ : ∃ B, B0 + 1 = B := ⟨_, rfl⟩
    rw [hB1] at H1
    simp only [hB0, hB1]
    go_wp2_with fail
    go_loopw [5] (fun i wr => ∃ (k : Nat) (n : Int) (b : Bool), 1 ≤ k ∧ k ≤ l.length ∧ i = .int .i64 (k : Int) ∧ 0 ≤ n ∧ n ≤ 1000000000000 ∧ Hid (wr.heap[B1]? = some (.cells (ntC n b).toArray 164 (0, 0)) ∧ wr.heap[B0]? = some (.cells #[.int .u8 0, .string ⟨#[]⟩, .int .i64 0, .bool false] 164 (0, 0)) ∧ Below B0 w wr) ∧ Hid (Pl.numF (l.drop k) n b = (rn, rb))) (fun i _ => l.length - (intOf i).toNat)
    case atStart => exact ⟨1, 0, false, by omega, by omega, rfl, by omega, by omega, Lib.hid ⟨H1.out.1, H1.out.2.1, H1.out.2.2⟩, Lib.hid HF.out.2⟩
    case round =>
      obtain ⟨k, n, b, hk0, hk, rfl, hn0, hn1, HZ, HK⟩ := hrel
      by_cases hkl : k < l.length
      · have hKF := HK.out
        rw [List.drop_eq_getElem_cons hkl] at hKF
        simp only [Pl.numF] at hKF
        have hxd := Pl.dig_bd (HF.out.1 k hk0 hkl)
        obtain ⟨cc, hcc⟩ : ∃ c, l[k] = c := ⟨_, rfl⟩
        have hix : ∀ W', (Instr.index 9 (.string ⟨l.toArray⟩) (.int .i64 (k : Int))).run Tryz.prog W' = .ok (.int .u8 (cc.toNat : Int)) W' := by
          intro W'
          rw [← hcc]
          simp [go_sem, hkl]
        rw [hcc] at hKF hxd
        obtain ⟨x, hx⟩ : ∃ x, cc.toNat = x := ⟨_, rfl⟩
        rw [hx] at hix hKF hxd
        have z2 : wr.cell? ⟨B1, 2, none⟩ = some (.int .i64 n) := by rw [cell_row wr B1 2 _ _ HZ.out.1]; rfl
        have f2 := frozen_of wr B1 2 _ _ HZ.out.1
        have f3 := frozen_of wr B1 3 _ _ HZ.out.1
        have z3 : wr.cell? ⟨B1, 3, none⟩ = some (.bool b) := by rw [cell_row wr B1 3 _ _ HZ.out.1]; rfl
        clear hcc hx HK
        by_cases hbig : 99999999999 < n
        · rw [if_pos hbig, decide_eq_true hbig, Bool.or_true] at hKF
          have HKF := Lib.hid hKF
          clear hKF
          go_upto_region 11 with (fail)
          generalize hV : World.setCell _ _ _ = V
          have hzV : V.heap[B1]? = some (.cells (ntC 0 true).toArray 164 (0, 0)) := by
            rw [← hV, set_at _ B1 2 _ _ _ (set_at _ B1 3 _ _ _ HZ.out.1)]; rfl
          have hz0V : V.heap[B0]? = some (.cells #[.int .u8 0, .string ⟨#[]⟩, .int .i64 0, .bool false] 164 (0, 0)) := by
            rw [← hV, Below.heap_setCell _ _ _ _ (by show B0 ≠ B1; omega), Below.heap_setCell _ _ _ _ (by show B0 ≠ B1; omega)]; exact HZ.out.2.1
          have hbV : Below B0 w V := by rw [← hV]; exact (HZ.out.2.2.setCell (p := ⟨B1, 3, none⟩) (by show B0 ≤ B1; omega) _).setCell (by show B0 ≤ B1; omega) _
          obtain ⟨m, hm⟩ : ∃ m : Int, 0 = m := ⟨_, rfl⟩
          obtain ⟨bb, hbb⟩ : ∃ b : Bool, true = b := ⟨_, rfl⟩
          have hm0 : 0 ≤ m := by omega
          have hm1 : m ≤ 99999999999 := by omega
          have HV : Hid (V.heap[B1]? = some (.cells (ntC m bb).toArray 164 (0, 0)) ∧ V.heap[B0]? = some (.cells #[.int .u8 0, .string ⟨#[]⟩, .int .i64 0, .bool false] 164 (0, 0)) ∧ Below B0 w V ∧ Pl.numF (l.drop (k + 1)) (10 * m + ((x : Int) - 48)) bb = (rn, rb)) := by
            subst hm hbb; exact Lib.hid ⟨hzV, hz0V, hbV, HKF.out⟩
          clear hV hzV hz0V hbV hm hbb z2 f2 z3 f3 HKF HZ hn0 hn1 hbig
          have hzd : V.drew.heap[B1]? = some (.cells (ntC m bb).toArray 164 (0, 0)) := HV.out.1
          have h2 : V.drew.cell? ⟨B1, 2, none⟩ = some (.int .i64 m) := by rw [cell_row _ B1 2 _ _ hzd]; rfl
          have hf2 := frozen_of _ B1 2 _ _ hzd
          have hm10 : IntKind.i64.wrap (10 * m) = 10 * m := IntWalk.i64_in _ (by omega)
          have hx48 : IntKind.u8.wrap ((x : Int) - 48) = (x : Int) - 48 := by rw [IntKind.wrap_u8]; omega
          have hma : IntKind.i64.wrap (10 * m + ((x : Int) - 48)) = 10 * m + ((x : Int) - 48) := IntWalk.i64_in _ (by omega)
          clear hzd
          refine wp_regionL 10 (fun w' => w'.cell? ⟨B1, 2, none⟩ = some (.int .i64 m)) (by kernel_rfl) (by exact h2) (fun hHeld => ?_)
          refine takeL (i := 0) (v := ?_) rfl (by kernel_rfl) (by kernel_rfl) (by kernel_rfl) (by kernel_rfl) (by kernel_rfl) (by decide) (fun _ _ _ h => h) (Or.inl ⟨by kernel_rfl, ?_⟩) hHeld ?_
          rotate_left
          · (intro w' hSw; (try dsimp only at hSw); go_simp; try with_reducible rfl)
          simp only [Act.put, lay8]
          refine takeL (i := 1) (v := ?_) rfl (by kernel_rfl) (by kernel_rfl) (by kernel_rfl) (by kernel_rfl) (by kernel_rfl) (by decide) (fun _ _ _ h => h) (Or.inl ⟨by kernel_rfl, ?_⟩) hHeld ?_
          rotate_left
          · (intro w' hSw; (try dsimp only at hSw); go_simp; try with_reducible rfl)
          simp only [Act.put, lay8]
          refine takeL (i := 2) (v := ?_) rfl (by kernel_rfl) (by kernel_rfl) (by kernel_rfl) (by kernel_rfl) (by kernel_rfl) (by decide) (fun _ _ _ h => h) (Or.inl ⟨by kernel_rfl, ?_⟩) hHeld ?_
          rotate_left
          · (intro w' hSw; (try dsimp only at hSw); go_simp; try with_reducible rfl)
          simp only [Act.put, lay8]
          refine takeL (i := 3) (v := ?_) rfl (by kernel_rfl) (by kernel_rfl) (by kernel_rfl) (by kernel_rfl) (by kernel_rfl) (by decide) (fun _ _ _ h => h) (Or.inl ⟨by kernel_rfl, ?_⟩) hHeld ?_
          rotate_left
          · (intro w' hSw; (try dsimp only at hSw); go_simp; try with_reducible rfl)
          simp only [Act.put, lay8]
          refine takeL (i := 4) (v := ?_) rfl (by kernel_rfl) (by kernel_rfl) (by kernel_rfl) (by kernel_rfl) (by kernel_rfl) (by decide) (fun _ _ _ h => h) (Or.inl ⟨by kernel_rfl, ?_⟩) hHeld ?_
          rotate_left
          · (intro w' hSw; (try dsimp only at hSw); go_simp; try with_reducible rfl)
          simp only [Act.put, lay8]
          refine takeL (i := 5) (v := ?_) rfl (by kernel_rfl) (by kernel_rfl) (by kernel_rfl) (by kernel_rfl) (by kernel_rfl) (by decide) (fun _ _ _ h => h) (Or.inl ⟨by kernel_rfl, ?_⟩) hHeld ?_
          rotate_left
          · (intro w' hSw; (try dsimp only at hSw); go_simp; try with_reducible rfl)
          simp only [Act.put, lay8]
          refine takeL (i := 6) (v := ?_) rfl (by kernel_rfl) (by kernel_rfl) (by kernel_rfl) (by kernel_rfl) (by kernel_rfl) (by decide) (fun _ _ _ h => h) (Or.inl ⟨by kernel_rfl, ?_⟩) hHeld ?_
          rotate_left
          · (intro w' hSw; (try dsimp only at hSw); go_simp; try with_reducible rfl)
          simp only [Act.put, lay8]
          refine takeL (i := 7) (v := ?_) rfl (by kernel_rfl) (by kernel_rfl) (by kernel_rfl) (by kernel_rfl) (by kernel_rfl) (by decide) (fun _ _ _ h => h) (Or.inl ⟨by kernel_rfl, ?_⟩) hHeld ?_
          rotate_left
          · (intro w' hSw; (try dsimp only at hSw); go_simp; try with_reducible rfl)
          simp only [Act.put, lay8]
          refine takeL (i := 8) (v := ?_) rfl (by kernel_rfl) (by kernel_rfl) (by kernel_rfl) (by kernel_rfl) (by kernel_rfl) (by decide) (fun _ _ _ h => h) (Or.inl ⟨by kernel_rfl, ?_⟩) hHeld ?_
          rotate_left
          · (intro w' hSw; (try dsimp only at hSw); go_simp; try with_reducible rfl)
          simp only [Act.put, lay8]
          refine takeL (i := 9) (v := ?_) rfl (by kernel_rfl) (by kernel_rfl) (by kernel_rfl) (by kernel_rfl) (by kernel_rfl) (by decide) (fun _ _ _ h => h) (Or.inl ⟨by kernel_rfl, ?_⟩) hHeld ?_
          rotate_left
          · (intro w' hSw; (try dsimp only at hSw); go_simp; try with_reducible rfl)
          simp only [Act.put, lay8]
          refine readyL (rs := [10]) (by kernel_rfl) (by simp) (ReadyL.last rfl (fun K hK => ?_))
          go_simp
          refine hK.out _ _ ?_
          clear hK K
          (try simp only [Act.put, lay8])
          refine doneL (by kernel_rfl) ?_ _
          go_wp2_with fail
          refine ⟨⟨k + 1, 10 * m + ((x : Int) - 48), bb, by omega, by omega, ret_i (by omega), by omega, by omega, Lib.hid ⟨?_, ?_, ?_⟩, Lib.hid HV.out.2.2.2⟩, by simp only [intOf]; omega⟩
          · have h := set_at V.drew B1 2 _ (.int .i64 (10 * m + ((x : Int) - 48))) _ HV.out.1
            rw [ntC_set2] at h
            exact h
          · show (V.setCell _ _).heap[B0]? = _
            rw [Below.heap_setCell _ _ _ _ (by show B0 ≠ B1; omega)]
            exact HV.out.2.1
          · exact (HV.out.2.2.1.setCell (p := ⟨B1, 2, none⟩) (by show B0 ≤ B1; omega) _).drew
        · rw [if_neg hbig, decide_eq_false hbig, Bool.or_false] at hKF
          have hm1 : n ≤ 99999999999 := by omega
          have HV := Lib.hid (And.intro HZ.out.1 (And.intro HZ.out.2.1 (And.intro HZ.out.2.2 hKF)))
          clear hKF
          go_upto_region 11 with (fail)
          obtain ⟨V, hV⟩ : ∃ V, wr = V := ⟨_, rfl⟩
          obtain ⟨m, hm⟩ : ∃ m, n = m := ⟨_, rfl⟩
          obtain ⟨bb, hbb⟩ : ∃ z, b = z := ⟨_, rfl⟩
          subst hV hm hbb
          clear z2 f2 z3 f3 HZ hbig
          have hzd : wr.drew.heap[B1]? = some (.cells (ntC n b).toArray 164 (0, 0)) := HV.out.1
          have h2 : wr.drew.cell? ⟨B1, 2, none⟩ = some (.int .i64 n) := by rw [cell_row _ B1 2 _ _ hzd]; rfl
          have hf2 := frozen_of _ B1 2 _ _ hzd
          have hm10 : IntKind.i64.wrap (10 * n) = 10 * n := IntWalk.i64_in _ (by omega)
          have hx48 : IntKind.u8.wrap ((x : Int) - 48) = (x : Int) - 48 := by rw [IntKind.wrap_u8]; omega
          have hma : IntKind.i64.wrap (10 * n + ((x : Int) - 48)) = 10 * n + ((x : Int) - 48) := IntWalk.i64_in _ (by omega)
          clear hzd
          refine wp_regionL 10 (fun w' => w'.cell? ⟨B1, 2, none⟩ = some (.int .i64 n)) (by kernel_rfl) (by exact h2) (fun hHeld => ?_)
          refine takeL (i := 0) (v := ?_) rfl (by kernel_rfl) (by kernel_rfl) (by kernel_rfl) (by kernel_rfl) (by kernel_rfl) (by decide) (fun _ _ _ h => h) (Or.inl ⟨by kernel_rfl, ?_⟩) hHeld ?_
          rotate_left
          · (intro w' hSw; (try dsimp only at hSw); go_simp; try with_reducible rfl)
          simp only [Act.put, lay8]
          refine takeL (i := 1) (v := ?_) rfl (by kernel_rfl) (by kernel_rfl) (by kernel_rfl) (by kernel_rfl) (by kernel_rfl) (by decide) (fun _ _ _ h => h) (Or.inl ⟨by kernel_rfl, ?_⟩) hHeld ?_
          rotate_left
          · (intro w' hSw; (try dsimp only at hSw); go_simp; try with_reducible rfl)
          simp only [Act.put, lay8]
          refine takeL (i := 2) (v := ?_) rfl (by kernel_rfl) (by kernel_rfl) (by kernel_rfl) (by kernel_rfl) (by kernel_rfl) (by decide) (fun _ _ _ h => h) (Or.inl ⟨by kernel_rfl, ?_⟩) hHeld ?_
          rotate_left
          · (intro w' hSw; (try dsimp only at hSw); go_simp; try with_reducible rfl)
          simp only [Act.put, lay8]
          refine takeL (i := 3) (v := ?_) rfl (by kernel_rfl) (by kernel_rfl) (by kernel_rfl) (by kernel_rfl) (by kernel_rfl) (by decide) (fun _ _ _ h => h) (Or.inl ⟨by kernel_rfl, ?_⟩) hHeld ?_
          rotate_left
          · (intro w' hSw; (try dsimp only at hSw); go_simp; try with_reducible rfl)
          simp only [Act.put, lay8]
          refine takeL (i := 4) (v := ?_) rfl (by kernel_rfl) (by kernel_rfl) (by kernel_rfl) (by kernel_rfl) (by kernel_rfl) (by decide) (fun _ _ _ h => h) (Or.inl ⟨by kernel_rfl, ?_⟩) hHeld ?_
          rotate_left
          · (intro w' hSw; (try dsimp only at hSw); go_simp; try with_reducible rfl)
          simp only [Act.put, lay8]
          refine takeL (i := 5) (v := ?_) rfl (by kernel_rfl) (by kernel_rfl) (by kernel_rfl) (by kernel_rfl) (by kernel_rfl) (by decide) (fun _ _ _ h => h) (Or.inl ⟨by kernel_rfl, ?_⟩) hHeld ?_
          rotate_left
          · (intro w' hSw; (try dsimp only at hSw); go_simp; try with_reducible rfl)
          simp only [Act.put, lay8]
          refine takeL (i := 6) (v := ?_) rfl (by kernel_rfl) (by kernel_rfl) (by kernel_rfl) (by kernel_rfl) (by kernel_rfl) (by decide) (fun _ _ _ h => h) (Or.inl ⟨by kernel_rfl, ?_⟩) hHeld ?_
          rotate_left
          · (intro w' hSw; (try dsimp only at hSw); go_simp; try with_reducible rfl)
          simp only [Act.put, lay8]
          refine takeL (i := 7) (v := ?_) rfl (by kernel_rfl) (by kernel_rfl) (by kernel_rfl) (by kernel_rfl) (by kernel_rfl) (by decide) (fun _ _ _ h => h) (Or.inl ⟨by kernel_rfl, ?_⟩) hHeld ?_
          rotate_left
          · (intro w' hSw; (try dsimp only at hSw); go_simp; try with_reducible rfl)
          simp only [Act.put, lay8]
          refine takeL (i := 8) (v := ?_) rfl (by kernel_rfl) (by kernel_rfl) (by kernel_rfl) (by kernel_rfl) (by kernel_rfl) (by decide) (fun _ _ _ h => h) (Or.inl ⟨by kernel_rfl, ?_⟩) hHeld ?_
          rotate_left
          · (intro w' hSw; (try dsimp only at hSw); go_simp; try with_reducible rfl)
          simp only [Act.put, lay8]
          refine takeL (i := 9) (v := ?_) rfl (by kernel_rfl) (by kernel_rfl) (by kernel_rfl) (by kernel_rfl) (by kernel_rfl) (by decide) (fun _ _ _ h => h) (Or.inl ⟨by kernel_rfl, ?_⟩) hHeld ?_
          rotate_left
          · (intro w' hSw; (try dsimp only at hSw); go_simp; try with_reducible rfl)
          simp only [Act.put, lay8]
          refine readyL (rs := [10]) (by kernel_rfl) (by simp) (ReadyL.last rfl (fun K hK => ?_))
          go_simp
          refine hK.out _ _ ?_
          clear hK K
          (try simp only [Act.put, lay8])
          refine doneL (by kernel_rfl) ?_ _
          go_wp2_with fail
          refine ⟨⟨k + 1, 10 * n + ((x : Int) - 48), b, by omega, by omega, ret_i (by omega), by omega, by omega, Lib.hid ⟨?_, ?_, ?_⟩, Lib.hid HV.out.2.2.2⟩, by simp only [intOf]; omega⟩
          · have h := set_at wr.drew B1 2 _ (.int .i64 (10 * n + ((x : Int) - 48))) _ HV.out.1
            rw [ntC_set2] at h
            exact h
          · show (wr.setCell _ _).heap[B0]? = _
            rw [Below.heap_setCell _ _ _ _ (by show B0 ≠ B1; omega)]
            exact HV.out.2.1
          · exact (HV.out.2.2.1.setCell (p := ⟨B1, 2, none⟩) (by show B0 ≤ B1; omega) _).drew
      · have HE : Hid ((n, b) = (rn, rb)) := by
          have h := HK.out
          rw [List.drop_eq_nil_of_le (by omega)] at h
          exact Lib.hid h
        have z0 : wr.cell? ⟨B1, 0, none⟩ = some (.int .u8 110) := by rw [cell_row wr B1 0 _ _ HZ.out.1]; rfl
        have z1 : wr.cell? ⟨B1, 1, none⟩ = some (.string ⟨#[]⟩) := by rw [cell_row wr B1 1 _ _ HZ.out.1]; rfl
        have z2 : wr.cell? ⟨B1, 2, none⟩ = some (.int .i64 n) := by rw [cell_row wr B1 2 _ _ HZ.out.1]; rfl
        have z3 : wr.cell? ⟨B1, 3, none⟩ = some (.bool b) := by rw [cell_row wr B1 3 _ _ HZ.out.1]; rfl
        have y0 : wr.cell? ⟨B0, 0, none⟩ = some (.int .u8 0) := by rw [cell_row wr B0 0 _ _ HZ.out.2.1]; rfl
        have y1 : wr.cell? ⟨B0, 1, none⟩ = some (.string ⟨#[]⟩) := by rw [cell_row wr B0 1 _ _ HZ.out.2.1]; rfl
        have y2 : wr.cell? ⟨B0, 2, none⟩ = some (.int .i64 0) := by rw [cell_row wr B0 2 _ _ HZ.out.2.1]; rfl
        have y3 : wr.cell? ⟨B0, 3, none⟩ = some (.bool false) := by rw [cell_row wr B0 3 _ _ HZ.out.2.1]; rfl
        have f2 := frozen_of wr B1 2 _ _ HZ.out.1
        have g0 := frozen_of wr B0 0 _ _ HZ.out.2.1
        have g1 := frozen_of wr B0 1 _ _ HZ.out.2.1
        have g2 := frozen_of wr B0 2 _ _ HZ.out.2.1
        have g3 := frozen_of wr B0 3 _ _ HZ.out.2.1
        have hne : B0 ≠ B1 := by omega
        clear HK
        have hneg : IntKind.i64.wrap (-n) = -n := IntWalk.i64_in _ (by omega)
        go_wp2_with fail
        generalize hV : World.setCell (World.setCell _ _ _) _ _ = V
        have hzV : V.heap[B0]? = some (.cells (ntC (-n) b).toArray 164 (0, 0)) := by
          rw [← hV]
          have h : (wr.setCell ⟨B1, 2, none⟩ (.int .i64 (-n))).heap[B0]? = _ := (Below.heap_setCell _ _ _ _ (by show B0 ≠ B1; omega)).trans HZ.out.2.1
          rw [set_at _ B0 3 _ _ _ (set_at _ B0 2 _ _ _ (set_at _ B0 1 _ _ _ (set_at _ B0 0 _ _ _ h)))]; rfl
        have hbV : Below B0 w V := by
          rw [← hV]
          have h := HZ.out.2.2.setCell (p := ⟨B1, 2, none⟩) (by show B0 ≤ B1; omega) (.int .i64 (-n))
          exact (((h.setCell (p := ⟨B0, 0, none⟩) (Nat.le_refl _) _).setCell (p := ⟨B0, 1, none⟩) (Nat.le_refl _) _).setCell (p := ⟨B0, 2, none⟩) (Nat.le_refl _) _).setCell (p := ⟨B0, 3, none⟩) (Nat.le_refl _) _
        refine bodyPost_ret (resultsA (cs := ntC (-n) b) rfl rfl (rangeA hzV) Tryz.underlying164 rfl info_tok) rfl ⟨_, rfl, ?_, ?_⟩
        · rw [HF2.out]
          have h := HE.out
          injection h with h1 h2
          subst h1 h2
          rfl
        · rw [hB0]; exact hbV
  ·
    have e1 : ((c0 : Int) == 45) = false := by rw [beq_eq_false_iff_ne]; omega
    clear h45
    go_enter Tryz.func115, Tryz.ntmps115
    go_upto_region 3 with (fail)
    obtain ⟨B0, hB0⟩ : ∃ B, w.heap.size = B := ⟨_, rfl⟩
    generalize hW : World.alloc (World.alloc w _) _ = W1
    have hz1 : W1.heap[B0 + 1]? = some (.cells (ntC 0 false).toArray 164 (0, 0)) := by rw [← hW, ← hB0]; exact heap_alloc_2 _ _ _
    have hz0 : W1.heap[B0]? = some (.cells #[.int .u8 0, .string ⟨#[]⟩, .int .i64 0, .bool false] 164 (0, 0)) := by
      rw [← hW, ← hB0, Below.heap_alloc _ _ _ (by simp)]; exact heap_alloc_new _ _
    have hb1 : Below B0 w W1 := by rw [← hW, ← hB0]; exact ((Below.refl _ _).alloc (Nat.le_refl _) _).alloc (by simp) _
    have H1 := Lib.hid (And.intro hz1 (And.intro hz0 hb1))
    clear hW hz1 hz0 hb1
    obtain ⟨B1, hB1⟩ : ∃ B, B0 + 1 = B := ⟨_, rfl⟩
    rw [hB1] at H1
    simp only [hB0, hB1]
    go_wp2_with fail
    go_loopw [5] (fun i wr => ∃ (k : Nat) (n : Int) (b : Bool), 0 ≤ k ∧ k ≤ l.length ∧ i = .int .i64 (k : Int) ∧ 0 ≤ n ∧ n ≤ 1000000000000 ∧ Hid (wr.heap[B1]? = some (.cells (ntC n b).toArray 164 (0, 0)) ∧ wr.heap[B0]? = some (.cells #[.int .u8 0, .string ⟨#[]⟩, .int .i64 0, .bool false] 164 (0, 0)) ∧ Below B0 w wr) ∧ Hid (Pl.numF (l.drop k) n b = (rn, rb))) (fun i _ => l.length - (intOf i).toNat)
    case atStart => exact ⟨0, 0, false, by omega, by omega, rfl, by omega, by omega, Lib.hid ⟨H1.out.1, H1.out.2.1, H1.out.2.2⟩, Lib.hid HF.out.2⟩
    case round =>
      obtain ⟨k, n, b, hk0, hk, rfl, hn0, hn1, HZ, HK⟩ := hrel
      by_cases hkl : k < l.length
      · have hKF := HK.out
        rw [List.drop_eq_getElem_cons hkl] at hKF
        simp only [Pl.numF] at hKF
        have hxd := Pl.dig_bd (HF.out.1 k hk0 hkl)
        obtain ⟨cc, hcc⟩ : ∃ c, l[k] = c := ⟨_, rfl⟩
        have hix : ∀ W', (Instr.index 9 (.string ⟨l.toArray⟩) (.int .i64 (k : Int))).run Tryz.prog W' = .ok (.int .u8 (cc.toNat : Int)) W' := by
          intro W'
          rw [← hcc]
          simp [go_sem, hkl]
        rw [hcc] at hKF hxd
        obtain ⟨x, hx⟩ : ∃ x, cc.toNat = x := ⟨_, rfl⟩
        rw [hx] at hix hKF hxd
        have z2 : wr.cell? ⟨B1, 2, none⟩ = some (.int .i64 n) := by rw [cell_row wr B1 2 _ _ HZ.out.1]; rfl
        have f2 := frozen_of wr B1 2 _ _ HZ.out.1
        have f3 := frozen_of wr B1 3 _ _ HZ.out.1
        have z3 : wr.cell? ⟨B1, 3, none⟩ = some (.bool b) := by rw [cell_row wr B1 3 _ _ HZ.out.1]; rfl
        clear hcc hx HK
        by_cases hbig : 99999999999 < n
        · rw [if_pos hbig, decide_eq_true hbig, Bool.or_true] at hKF
          have HKF := Lib.hid hKF
          clear hKF
          go_upto_region 11 with (fail)
          generalize hV : World.setCell _ _ _ = V
          have hzV : V.heap[B1]? = some (.cells (ntC 0 true).toArray 164 (0, 0)) := by
            rw [← hV, set_at _ B1 2 _ _ _ (set_at _ B1 3 _ _ _ HZ.out.1)]; rfl
          have hz0V : V.heap[B0]? = some (.cells #[.int .u8 0, .string ⟨#[]⟩, .int .i64 0, .bool false] 164 (0, 0)) := by
            rw [← hV, Below.heap_setCell _ _ _ _ (by show B0 ≠ B1; omega), Below.heap_setCell _ _ _ _ (by show B0 ≠ B1; omega)]; exact HZ.out.2.1
          have hbV : Below B0 w V := by rw [← hV]; exact (HZ.out.2.2.setCell (p := ⟨B1, 3, none⟩) (by show B0 ≤ B1; omega) _).setCell (by show B0 ≤ B1; omega) _
          obtain ⟨m, hm⟩ : ∃ m : Int, 0 = m := ⟨_, rfl⟩
          obtain ⟨bb, hbb⟩ : ∃ b : Bool, true = b := ⟨_, rfl⟩
          have hm0 : 0 ≤ m := by omega
          have hm1 : m ≤ 99999999999 := by omega
          have HV : Hid (V.heap[B1]? = some (.cells (ntC m bb).toArray 164 (0, 0)) ∧ V.heap[B0]? = some (.cells #[.int .u8 0, .string ⟨#[]⟩, .int .i64 0, .bool false] 164 (0, 0)) ∧ Below B0 w V ∧ Pl.numF (l.drop (k + 1)) (10 * m + ((x : Int) - 48)) bb = (rn, rb)) := by
            subst hm hbb; exact Lib.hid ⟨hzV, hz0V, hbV, HKF.out⟩
          clear hV hzV hz0V hbV hm hbb z2 f2 z3 f3 HKF HZ hn0 hn1 hbig
          have hzd : V.drew.heap[B1]? = some (.cells (ntC m bb).toArray 164 (0, 0)) := HV.out.1
          have h2 : V.drew.cell? ⟨B1, 2, none⟩ = some (.int .i64 m) := by rw [cell_row _ B1 2 _ _ hzd]; rfl
          have hf2 := frozen_of _ B1 2 _ _ hzd
          have hm10 : IntKind.i64.wrap (10 * m) = 10 * m := IntWalk.i64_in _ (by omega)
          have hx48 : IntKind.u8.wrap ((x : Int) - 48) = (x : Int) - 48 := by rw [IntKind.wrap_u8]; omega
          have hma : IntKind.i64.wrap (10 * m + ((x : Int) - 48)) = 10 * m + ((x : Int) - 48) := IntWalk.i64_in _ (by omega)
          clear hzd
          refine wp_regionL 10 (fun w' => w'.cell? ⟨B1, 2, none⟩ = some (.int .i64 m)) (by kernel_rfl) (by exact h2) (fun hHeld => ?_)
          refine takeL (i := 0) (v := ?_) rfl (by kernel_rfl) (by kernel_rfl) (by kernel_rfl) (by kernel_rfl) (by kernel_rfl) (by decide) (fun _ _ _ h => h) (Or.inl ⟨by kernel_rfl, ?_⟩) hHeld ?_
          rotate_left
          · (intro w' hSw; (try dsimp only at hSw); go_simp; try with_reducible rfl)
          simp only [Act.put, lay8]
          refine takeL (i := 1) (v := ?_) rfl (by kernel_rfl) (by kernel_rfl) (by kernel_rfl) (by kernel_rfl) (by kernel_rfl) (by decide) (fun _ _ _ h => h) (Or.inl ⟨by kernel_rfl, ?_⟩) hHeld ?_
          rotate_left
          · (intro w' hSw; (try dsimp only at hSw); go_simp; try with_reducible rfl)
          simp only [Act.put, lay8]
          refine takeL (i := 2) (v := ?_) rfl (by kernel_rfl) (by kernel_rfl) (by kernel_rfl) (by kernel_rfl) (by kernel_rfl) (by decide) (fun _ _ _ h => h) (Or.inl ⟨by kernel_rfl, ?_⟩) hHeld ?_
          rotate_left
          · (intro w' hSw; (try dsimp only at hSw); go_simp; try with_reducible rfl)
          simp only [Act.put, lay8]
          refine takeL (i := 3) (v := ?_) rfl (by kernel_rfl) (by kernel_rfl) (by kernel_rfl) (by kernel_rfl) (by kernel_rfl) (by decide) (fun _ _ _ h => h) (Or.inl ⟨by kernel_rfl, ?_⟩) hHeld ?_
          rotate_left
          · (intro w' hSw; (try dsimp only at hSw); go_simp; try with_reducible rfl)
          simp only [Act.put, lay8]
          refine takeL (i := 4) (v := ?_) rfl (by kernel_rfl) (by kernel_rfl) (by kernel_rfl) (by kernel_rfl) (by kernel_rfl) (by decide) (fun _ _ _ h => h) (Or.inl ⟨by kernel_rfl, ?_⟩) hHeld ?_
          rotate_left
          · (intro w' hSw; (try dsimp only at hSw); go_simp; try with_reducible rfl)
          simp only [Act.put, lay8]
          refine takeL (i := 5) (v := ?_) rfl (by kernel_rfl) (by kernel_rfl) (by kernel_rfl) (by kernel_rfl) (by kernel_rfl) (by decide) (fun _ _ _ h => h) (Or.inl ⟨by kernel_rfl, ?_⟩) hHeld ?_
          rotate_left
          · (intro w' hSw; (try dsimp only at hSw); go_simp; try with_reducible rfl)
          simp only [Act.put, lay8]
          refine takeL (i := 6) (v := ?_) rfl (by kernel_rfl) (by kernel_rfl) (by kernel_rfl) (by kernel_rfl) (by kernel_rfl) (by decide) (fun _ _ _ h => h) (Or.inl ⟨by kernel_rfl, ?_⟩) hHeld ?_
          rotate_left
          · (intro w' hSw; (try dsimp only at hSw); go_simp; try with_reducible rfl)
          simp only [Act.put, lay8]
          refine takeL (i := 7) (v := ?_) rfl (by kernel_rfl) (by kernel_rfl) (by kernel_rfl) (by kernel_rfl) (by kernel_rfl) (by decide) (fun _ _ _ h => h) (Or.inl ⟨by kernel_rfl, ?_⟩) hHeld ?_
          rotate_left
          · (intro w' hSw; (try dsimp only at hSw); go_simp; try with_reducible rfl)
          simp only [Act.put, lay8]
          refine takeL (i := 8) (v := ?_) rfl (by kernel_rfl) (by kernel_rfl) (by kernel_rfl) (by kernel_rfl) (by kernel_rfl) (by decide) (fun _ _ _ h => h) (Or.inl ⟨by kernel_rfl, ?_⟩) hHeld ?_
          rotate_left
          · (intro w' hSw; (try dsimp only at hSw); go_simp; try with_reducible rfl)
          simp only [Act.put, lay8]
          refine takeL (i := 9) (v := ?_) rfl (by kernel_rfl) (by kernel_rfl) (by kernel_rfl) (by kernel_rfl) (by kernel_rfl) (by decide) (fun _ _ _ h => h) (Or.inl ⟨by kernel_rfl, ?_⟩) hHeld ?_
          rotate_left
          · (intro w' hSw; (try dsimp only at hSw); go_simp; try with_reducible rfl)
          simp only [Act.put, lay8]
          refine readyL (rs := [10]) (by kernel_rfl) (by simp) (ReadyL.last rfl (fun K hK => ?_))
          go_simp
          refine hK.out _ _ ?_
          clear hK K
          (try simp only [Act.put, lay8])
          refine doneL (by kernel_rfl) ?_ _
          go_wp2_with fail
          refine ⟨⟨k + 1, 10 * m + ((x : Int) - 48), bb, by omega, by omega, ret_i (by omega), by omega, by omega, Lib.hid ⟨?_, ?_, ?_⟩, Lib.hid HV.out.2.2.2⟩, by simp only [intOf]; omega⟩
          · have h := set_at V.drew B1 2 _ (.int .i64 (10 * m + ((x : Int) - 48))) _ HV.out.1
            rw [ntC_set2] at h
            exact h
          · show (V.setCell _ _).heap[B0]? = _
            rw [Below.heap_setCell _ _ _ _ (by show B0 ≠ B1; omega)]
            exact HV.out.2.1
          · exact (HV.out.2.2.1.setCell (p := ⟨B1, 2, none⟩) (by show B0 ≤ B1; omega) _).drew
        · rw [if_neg hbig, decide_eq_false hbig, Bool.or_false] at hKF
          have hm1 : n ≤ 99999999999 := by omega
          have HV := Lib.hid (And.intro HZ.out.1 (And.intro HZ.out.2.1 (And.intro HZ.out.2.2 hKF)))
          clear hKF
          go_upto_region 11 with (fail)
          obtain ⟨V, hV⟩ : ∃ V, wr = V := ⟨_, rfl⟩
          obtain ⟨m, hm⟩ : ∃ m, n = m := ⟨_, rfl⟩
          obtain ⟨bb, hbb⟩ : ∃ z, b = z := ⟨_, rfl⟩
          subst hV hm hbb
          clear z2 f2 z3 f3 HZ hbig
          have hzd : wr.drew.heap[B1]? = some (.cells (ntC n b).toArray 164 (0, 0)) := HV.out.1
          have h2 : wr.drew.cell? ⟨B1, 2, none⟩ = some (.int .i64 n) := by rw [cell_row _ B1 2 _ _ hzd]; rfl
          have hf2 := frozen_of _ B1 2 _ _ hzd
          have hm10 : IntKind.i64.wrap (10 * n) = 10 * n := IntWalk.i64_in _ (by omega)
          have hx48 : IntKind.u8.wrap ((x : Int) - 48) = (x : Int) - 48 := by rw [IntKind.wrap_u8]; omega
          have hma : IntKind.i64.wrap (10 * n + ((x : Int) - 48)) = 10 * n + ((x : Int) - 48) := IntWalk.i64_in _ (by omega)
          clear hzd
          refine wp_regionL 10 (fun w' => w'.cell? ⟨B1, 2, none⟩ = some (.int .i64 n)) (by kernel_rfl) (by exact h2) (fun hHeld => ?_)
          refine takeL (i := 0) (v := ?_) rfl (by kernel_rfl) (by kernel_rfl) (by kernel_rfl) (by kernel_rfl) (by kernel_rfl) (by decide) (fun _ _ _ h => h) (Or.inl ⟨by kernel_rfl, ?_⟩) hHeld ?_
          rotate_left
          · (intro w' hSw; (try dsimp only at hSw); go_simp; try with_reducible rfl)
          simp only [Act.put, lay8]
          refine takeL (i := 1) (v := ?_) rfl (by kernel_rfl) (by kernel_rfl) (by kernel_rfl) (by kernel_rfl) (by kernel_rfl) (by decide) (fun _ _ _ h => h) (Or.inl ⟨by kernel_rfl, ?_⟩) hHeld ?_
          rotate_left
          · (intro w' hSw; (try dsimp only at hSw); go_simp; try with_reducible rfl)
          simp only [Act.put, lay8]
          refine takeL (i := 2) (v := ?_) rfl (by kernel_rfl) (by kernel_rfl) (by kernel_rfl) (by kernel_rfl) (by kernel_rfl) (by decide) (fun _ _ _ h => h) (Or.inl ⟨by kernel_rfl, ?_⟩) hHeld ?_
          rotate_left
          · (intro w' hSw; (try dsimp only at hSw); go_simp; try with_reducible rfl)
          simp only [Act.put, lay8]
          refine takeL (i := 3) (v := ?_) rfl (by kernel_rfl) (by kernel_rfl) (by kernel_rfl) (by kernel_rfl) (by kernel_rfl) (by decide) (fun _ _ _ h => h) (Or.inl ⟨by kernel_rfl, ?_⟩) hHeld ?_
          rotate_left
          · (intro w' hSw; (try dsimp only at hSw); go_simp; try with_reducible rfl)
          simp only [Act.put, lay8]
          refine takeL (i := 4) (v := ?_) rfl (by kernel_rfl) (by kernel_rfl) (by kernel_rfl) (by kernel_rfl) (by kernel_rfl) (by decide) (fun _ _ _ h => h) (Or.inl ⟨by kernel_rfl, ?_⟩) hHeld ?_
          rotate_left
          · (intro w' hSw; (try dsimp only at hSw); go_simp; try with_reducible rfl)
          simp only [Act.put, lay8]
          refine takeL (i := 5) (v := ?_) rfl (by kernel_rfl) (by kernel_rfl) (by kernel_rfl) (by kernel_rfl) (by kernel_rfl) (by decide) (fun _ _ _ h => h) (Or.inl ⟨by kernel_rfl, ?_⟩) hHeld ?_
          rotate_left
          · (intro w' hSw; (try dsimp only at hSw); go_simp; try with_reducible rfl)
          simp only [Act.put, lay8]
          refine takeL (i := 6) (v := ?_) rfl (by kernel_rfl) (by kernel_rfl) (by kernel_rfl) (by kernel_rfl) (by kernel_rfl) (by decide) (fun _ _ _ h => h) (Or.inl ⟨by kernel_rfl, ?_⟩) hHeld ?_
          rotate_left
          · (intro w' hSw; (try dsimp only at hSw); go_simp; try with_reducible rfl)
          simp only [Act.put, lay8]
          refine takeL (i := 7) (v := ?_) rfl (by kernel_rfl) (by kernel_rfl) (by kernel_rfl) (by kernel_rfl) (by kernel_rfl) (by decide) (fun _ _ _ h => h) (Or.inl ⟨by kernel_rfl, ?_⟩) hHeld ?_
          rotate_left
          · (intro w' hSw; (try dsimp only at hSw); go_simp; try with_reducible rfl)
          simp only [Act.put, lay8]
          refine takeL (i := 8) (v := ?_) rfl (by kernel_rfl) (by kernel_rfl) (by kernel_rfl) (by kernel_rfl) (by kernel_rfl) (by decide) (fun _ _ _ h => h) (Or.inl ⟨by kernel_rfl, ?_⟩) hHeld ?_
          rotate_left
          · (intro w' hSw; (try dsimp only at hSw); go_simp; try with_reducible rfl)
          simp only [Act.put, lay8]
          refine takeL (i := 9) (v := ?_) rfl (by kernel_rfl) (by kernel_rfl) (by kernel_rfl) (by kernel_rfl) (by kernel_rfl) (by decide) (fun _ _ _ h => h) (Or.inl ⟨by kernel_rfl, ?_⟩) hHeld ?_
          rotate_left
          · (intro w' hSw; (try dsimp only at hSw); go_simp; try with_reducible rfl)
          simp only [Act.put, lay8]
          refine readyL (rs := [10]) (by kernel_rfl) (by simp) (ReadyL.last rfl (fun K hK => ?_))
          go_simp
          refine hK.out _ _ ?_
          clear hK K
          (try simp only [Act.put, lay8])
          refine doneL (by kernel_rfl) ?_ _
          go_wp2_with fail
          refine ⟨⟨k + 1, 10 * n + ((x : Int) - 48), b, by omega, by omega, ret_i (by omega), by omega, by omega, Lib.hid ⟨?_, ?_, ?_⟩, Lib.hid HV.out.2.2.2⟩, by simp only [intOf]; omega⟩
          · have h := set_at wr.drew B1 2 _ (.int .i64 (10 * n + ((x : Int) - 48))) _ HV.out.1
            rw [ntC_set2] at h
            exact h
          · show (wr.setCell _ _).heap[B0]? = _
            rw [Below.heap_setCell _ _ _ _ (by show B0 ≠ B1; omega)]
            exact HV.out.2.1
          · exact (HV.out.2.2.1.setCell (p := ⟨B1, 2, none⟩) (by show B0 ≤ B1; omega) _).drew
      · have HE : Hid ((n, b) = (rn, rb)) := by
          have h := HK.out
          rw [List.drop_eq_nil_of_le (by omega)] at h
          exact Lib.hid h
        have z0 : wr.cell? ⟨B1, 0, none⟩ = some (.int .u8 110) := by rw [cell_row wr B1 0 _ _ HZ.out.1]; rfl
        have z1 : wr.cell? ⟨B1, 1, none⟩ = some (.string ⟨#[]⟩) := by rw [cell_row wr B1 1 _ _ HZ.out.1]; rfl
        have z2 : wr.cell? ⟨B1, 2, none⟩ = some (.int .i64 n) := by rw [cell_row wr B1 2 _ _ HZ.out.1]; rfl
        have z3 : wr.cell? ⟨B1, 3, none⟩ = some (.bool b) := by rw [cell_row wr B1 3 _ _ HZ.out.1]; rfl
        have y0 : wr.cell? ⟨B0, 0, none⟩ = some (.int .u8 0) := by rw [cell_row wr B0 0 _ _ HZ.out.2.1]; rfl
        have y1 : wr.cell? ⟨B0, 1, none⟩ = some (.string ⟨#[]⟩) := by rw [cell_row wr B0 1 _ _ HZ.out.2.1]; rfl
        have y2 : wr.cell? ⟨B0, 2, none⟩ = some (.int .i64 0) := by rw [cell_row wr B0 2 _ _ HZ.out.2.1]; rfl
        have y3 : wr.cell? ⟨B0, 3, none⟩ = some (.bool false) := by rw [cell_row wr B0 3 _ _ HZ.out.2.1]; rfl
        have f2 := frozen_of wr B1 2 _ _ HZ.out.1
        have g0 := frozen_of wr B0 0 _ _ HZ.out.2.1
        have g1 := frozen_of wr B0 1 _ _ HZ.out.2.1
        have g2 := frozen_of wr B0 2 _ _ HZ.out.2.1
        have g3 := frozen_of wr B0 3 _ _ HZ.out.2.1
        have hne : B0 ≠ B1 := by omega
        clear HK
        go_wp2_with fail
        generalize hV : World.setCell (World.setCell _ _ _) _ _ = V
        have hzV : V.heap[B0]? = some (.cells (ntC n b).toArray 164 (0, 0)) := by
          rw [← hV]
          have h := HZ.out.2.1
          rw [set_at _ B0 3 _ _ _ (set_at _ B0 2 _ _ _ (set_at _ B0 1 _ _ _ (set_at _ B0 0 _ _ _ h)))]; rfl
        have hbV : Below B0 w V := by
          rw [← hV]
          have h := HZ.out.2.2
          exact (((h.setCell (p := ⟨B0, 0, none⟩) (Nat.le_refl _) _).setCell (p := ⟨B0, 1, none⟩) (Nat.le_refl _) _).setCell (p := ⟨B0, 2, none⟩) (Nat.le_refl _) _).setCell (p := ⟨B0, 3, none⟩) (Nat.le_refl _) _
        refine bodyPost_ret (resultsA (cs := ntC n b) rfl rfl (rangeA hzV) Tryz.underlying164 rfl info_tok) rfl ⟨_, rfl, ?_, ?_⟩
        · rw [HF2.out]
          have h := HE.out
          injection h with h1 h2
          subst h1 h2
          rfl
        · rw [hB0]; exact hbV
end Go.Proofs.YtmmnkoeajdeldaaGreatDoor
namespace Go.Proofs.YtmmnkoeajdeldaaGreatDoor
open Go.RowKit
set_option linter.unusedVariables false
set_option linter.unusedSimpArgs false
attribute [local go_sem] ba_get ba_cut ba_add
theorem own_e (w : World) (base : Nat) (e : TypeId) (k : Nat) (hb : base ≤ w.heap.size) : (w.alloc (.cells #[] e)).ownsRow base e k (.slice (some ⟨w.heap.size, 0, none⟩) 0 0) 0 [] :=
  ⟨by simp, .inr ⟨w.heap.size, 0, #[], rfl, hb, heap_alloc_new w _, Nat.le_refl _, by decide, by simp, by simp⟩⟩
theorem info_tok4 : (Tryz.prog.info? 164).map (fun i => (i.zero, i.size, i.bytes)) = some (some (.agg #[.int .u8 0, .string ⟨#[]⟩, .int .i64 0, .bool false]), 4, 40) := by kernel_rfl
theorem dtC_one (d : Pl.Dt) : ∀ u ∈ dtC d, u.oneCell' = true := by
  intro u hu
  simp only [dtC, List.mem_cons, List.not_mem_nil, or_false] at hu
  rcases hu with rfl | rfl | rfl | rfl <;> rfl
theorem dtsC_snoc (l : List Pl.Dt) (d : Pl.Dt) : dtsC (l ++ [d]) = dtsC l ++ dtC d := by simp [dtsC]
theorem tokD_at (l : List UInt8) (k : Nat) (h : k < l.length) : Pl.tokD (l.drop k) = if l[k].toNat = 44 ∨ l[k].toNat = 58 ∨ l[k].toNat = 40 ∨ l[k].toNat = 41 then some (⟨l[k].toNat, [], 0, false⟩, 1)
    else if l[k].toNat = 34 then (Pl.quo (l.drop (k + 1))).map fun y => (⟨113, y.1, 0, false⟩, y.2 + 1)
    else if Pl.letB l[k] = true then some (⟨119, (l.drop k).take (Pl.spanN Pl.lodB (l.drop k)), 0, false⟩, Pl.spanN Pl.lodB (l.drop k))
    else if Pl.spanN Pl.digB (l.drop (k + (if l[k].toNat = 45 then 1 else 0))) = 0 then none
      else some (Pl.numD ((l.drop k).take ((if l[k].toNat = 45 then 1 else 0) + Pl.spanN Pl.digB (l.drop (k + (if l[k].toNat = 45 then 1 else 0))))), (if l[k].toNat = 45 then 1 else 0) + Pl.spanN Pl.digB (l.drop (k + (if l[k].toNat = 45 then 1 else 0)))) := by
  have e : ∀ sg, l.drop (k + sg) = (l.drop k).drop sg := fun sg => by rw [List.drop_drop]
  simp only [e]
  rw [List.drop_eq_getElem_cons h]
  rfl
/-- A line's tokens, or none. -/
def TokR (R : Option (List Pl.Dt)) (v : Value) (w' : World) : Prop := match R with
  | none => ∃ A n c, v = .tuple #[.slice A n c, .bool false]
  | some b => ∃ A c, v = .tuple #[.slice A b.length c, .bool true] ∧ Rd w' 4 A b.length (dtsC b)
set_option maxRecDepth 100000 in
set_option maxHeartbeats 4000000 in
theorem rtoks_any (l : List UInt8) (hl : l.length ≤ 100000) (w : World) : Calls Tryz.prog 72 #[.string ⟨l.toArray⟩] w (RetB (TokR (Pl.toksD l)) w) := by
  obtain ⟨R, hR⟩ : ∃ R, Pl.toksD l = R := ⟨_, rfl⟩
  rw [hR]
  have HR := Lib.hid hR
  clear hR
  go_enter Tryz.func72, Tryz.ntmps72
  go_wp2_with fail
  go_loopw [4, 5] (fun v i wr => ∃ (k : Nat) (ts : List Pl.Dt), k ≤ l.length ∧ ts.length ≤ k ∧ i = .int .i64 (k : Int) ∧ wr.ownsRow w.heap.size 164 4 v ts.length (dtsC ts) ∧ Below w.heap.size w wr ∧ Hid ((Pl.toksD (l.drop k)).map (fun y => ts ++ y) = R)) (fun _ i _ => l.length - (intOf i).toNat)
  case atStart =>
    refine ⟨0, [], by omega, by simp, rfl, own_e w w.heap.size _ 4 (Nat.le_refl _), (Below.refl _ _).alloc (Nat.le_refl _) _, Lib.hid ?_⟩
    rw [← HR.out, List.drop_zero]
    cases Pl.toksD l <;> rfl
  case round =>
    obtain ⟨k, ts, hk, htk, rfl, hown, hbw, HK⟩ := hrel
    obtain ⟨vA, vc, rfl⟩ := own_form' hown
    have hhi := hbw.size
    by_cases hkl : k < l.length
    · have hcons : Pl.toksD (l.drop k) = Pl.toksD (l[k] :: l.drop (k + 1)) := by rw [List.drop_eq_getElem_cons hkl]
      rw [Pl.toksD_cons] at hcons
      have hdk : l[k] :: l.drop (k + 1) = l.drop k := by rw [List.drop_eq_getElem_cons hkl]
      rw [hdk, tokD_at l k hkl] at hcons
      have hix := fun W => ix_nat l k hkl (k : Int) rfl W
      have hsg := fun sg m => Pl.num_signs (l.drop k) l[k] (l.drop (k + 1)) hdk.symm sg m
      obtain ⟨c, hc⟩ : ∃ c, l[k] = c := ⟨_, rfl⟩
      rw [hc] at hcons hix hsg
      have HK2 := HK.out
      rw [hcons] at HK2
      have hcl := c.toNat_lt
      have hin := fun W => rin_any c [44, 58, 40, 41] (by decide) W
      have hlet := fun W => rletter_any c W
      have hdig := fun W => rdigit_any c W
      have hld : Pl.letB c = true → Pl.digB c = false := by
        unfold Pl.letB Pl.digB
        intro h
        have h := of_decide_eq_true h
        exact decide_eq_false (by omega)
      rw [show Pl.lodB c = (Pl.letB c || Pl.digB c) from rfl] at hlet
      have hspos : Pl.letB c = true → 1 ≤ Pl.spanN Pl.lodB (l.drop k) := by
        intro h
        rw [span_drop _ l k hkl, hc, show Pl.lodB c = true by unfold Pl.lodB; rw [h]; rfl, if_pos rfl]
        omega
      have hmem : decide (c ∈ ([44, 58, 40, 41] : List UInt8)) = decide (c.toNat = 44 ∨ c.toNat = 58 ∨ c.toNat = 40 ∨ c.toNat = 41) := by
        have e : ∀ n : UInt8, (c = n) ↔ c.toNat = n.toNat := fun n => ⟨fun h => by rw [h], fun h => UInt8.toNat.inj h⟩
        simp [e]
      rw [hmem] at hin
      obtain ⟨lb, hlb⟩ : ∃ b, Pl.letB c = b := ⟨_, rfl⟩
      obtain ⟨db, hdb⟩ : ∃ b, Pl.digB c = b := ⟨_, rfl⟩
      rw [hlb, hdb] at hlet hld
      rw [hlb] at hspos
      have HS := Lib.hid hspos
      rw [hdb] at hdig
      rw [hlb] at HK2
      obtain ⟨x, hx⟩ : ∃ x, c.toNat = x := ⟨_, rfl⟩
      rw [hx] at hix hcl HK2 hin hlet hdig
      have HG := Lib.hid hsg
      have HX := Lib.hid (And.intro hown (And.intro hbw (And.intro hhi hx)))
      have HF := Lib.hid (And.intro hin (And.intro hlet hdig))
      clear hcons HK hc hx hown hbw hhi hdk hsg hmem hspos hlb hdb hin hlet hdig
      by_cases h1 : x = 32 ∨ x = 9
      · have h35 : ¬ x = 35 := by omega
        rw [if_neg h35, if_pos h1] at HK2
        have HN := Lib.hid HK2
        clear HK2 h35
        rcases h1 with rfl | rfl
        all_goals
          go_wp2_with fail
          exact ⟨⟨k + 1, ts, by omega, by omega, ret_i (by omega), HX.out.1, HX.out.2.1, Lib.hid HN.out⟩, by simp only [intOf]; omega⟩
      have e32 : ((x : Int) == 32) = false := by rw [beq_eq_false_iff_ne]; omega
      have e9 : ((x : Int) == 9) = false := by rw [beq_eq_false_iff_ne]; omega
      by_cases h2 : x = 35
      · rw [if_pos h2] at HK2
        subst h2
        have hRn : R = some ts := by rw [← HK2]; simp
        have HN := Lib.hid hRn
        clear HK2 hRn h1
        go_wp2_with fail
        go_ret2
        refine ⟨_, rfl, ?_, HX.out.2.1⟩
        rw [HN.out]
        exact ⟨_, _, rfl, Rd.own HX.out.1⟩
      rw [if_neg h2, if_neg h1] at HK2
      have e35 : ((x : Int) == 35) = false := by rw [beq_eq_false_iff_ne]; omega
      clear h1 h2
      by_cases h3 : x = 44 ∨ x = 58 ∨ x = 40 ∨ x = 41
      · rw [if_pos h3] at HK2
        have hin := HF.out.1
        rw [decide_eq_true h3] at hin
        have HI := Lib.hid hin
        have HN := Lib.hid HK2
        have h45 : x < 256 := by omega
        clear hin HK2 h3
        go_wp2_with fail
        refine (HI.out _).mono ?_
        rintro y w2 ⟨rfl, rfl⟩
        go_wp2_with (at_builtin; refine push_k rfl (.tmp 33) (.tmp 36) 132 rfl w.heap.size 164 (.agg #[.int .u8 0, .string ⟨#[]⟩, .int .i64 0, .bool false]) 4 40 Tryz.underlying132 info_tok4 rfl (by decide) wr _ _ _ [.int .u8 (x : Int), .string ⟨#[]⟩, .int .i64 0, .bool false] rfl rfl HX.out.1 rfl (by exact dtC_one ⟨x, [], 0, false⟩) (by omega) (by decide) HX.out.2.2.1 ?_; intro A1 cc w3 hown3 hb3; have HP := Lib.hid (And.intro hown3 hb3); clear hown3 hb3)
        refine ⟨⟨k + 1, ts ++ [⟨x, [], 0, false⟩], by omega, by simp; omega, ret_i (by omega), ?_, HX.out.2.1.trans HP.out.2, Lib.hid ?_⟩, by simp only [intOf]; omega⟩
        · have h := HP.out.1
          rw [List.length_append, dtsC_snoc]
          exact h
        · rw [← HN.out]
          simp only [Option.map_map, Option.map_some, List.drop_drop]
          congr 1
          funext y
          simp
      have hin := HF.out.1
      rw [decide_eq_false h3] at hin
      rw [if_neg h3] at HK2
      have HI := Lib.hid hin
      clear hin h3
      by_cases h4 : x = 34
      · rw [if_pos h4] at HK2
        subst h4
        have hq := fun W => rquo_any (l.drop k) (by rw [List.length_drop]; omega) (by rw [List.length_drop]; omega) W
        rw [List.drop_drop] at hq
        have hql := fun b n => Pl.quo_le (l.drop (k + 1)).length (l.drop (k + 1)) b n
        change ∀ b n, Pl.quo (l.drop (k + 1)) = some (b, n) → _ at hql
        rw [← cut_all l k] at hq
        obtain ⟨Q, hQ⟩ : ∃ Q, Pl.quo (l.drop (k + 1)) = Q := ⟨_, rfl⟩
        rw [hQ] at hq HK2 hql
        have HQ := Lib.hid hq
        have HN := Lib.hid HK2
        clear hq hQ HK2
        rcases Q with _ | ⟨q, m⟩
        · have HRn := Lib.hid (show R = none from HN.out.symm)
          have hqv : quoV ((none : Option (List UInt8 × Nat)).map fun y => (y.1, y.2 + 1)) = .tuple #[.string ⟨#[]⟩, .int .i64 0] := rfl
          rw [hqv] at HQ
          clear hql hqv
          go_wp2_with fail
          refine (HI.out _).mono ?_
          rintro y w2 ⟨rfl, rfl⟩
          go_wp2_with fail
          (with_reducible refine (HQ.out _).mono ?_)
          rintro y w2 ⟨v, rfl, rfl, hb2⟩
          have HB2 := Lib.hid (HX.out.2.1.trans (hb2.mono HX.out.2.2.1))
          clear hb2
          go_wp2_with fail
          go_ret2
          refine ⟨_, rfl, ?_, HB2.out.alloc HB2.out.size _⟩
          rw [HRn.out]
          exact ⟨_, _, _, rfl⟩
        · obtain ⟨p1, p2, p3⟩ := hql q m rfl
          rw [List.length_drop] at p2
          clear hql
          obtain ⟨n, hn⟩ : ∃ n, m + 1 = n := ⟨_, rfl⟩
          simp only [Option.map_some, hn] at HN
          have en : ((n : Int) == 0) = false := by rw [beq_eq_false_iff_ne]; omega
          have hqv : quoV ((some (q, m) : Option (List UInt8 × Nat)).map fun y => (y.1, y.2 + 1)) = .tuple #[.string ⟨q.toArray⟩, .int .i64 (n : Int)] := by subst hn; rfl
          rw [hqv] at HQ
          have hn1 : n ≤ l.length - k := by omega
          have hn0 : 1 ≤ n := by omega
          clear hqv hn p1 p2 p3
          go_wp2_with fail
          refine (HI.out _).mono ?_
          rintro y w2 ⟨rfl, rfl⟩
          go_wp2_with fail
          (with_reducible refine (HQ.out _).mono ?_)
          rintro y w2 ⟨v, rfl, rfl, hb2⟩
          have hown2 := own_below HX.out.1 hb2
          have hbE : Below w.heap.size w w2 := HX.out.2.1.trans (hb2.mono HX.out.2.2.1)
          have hs2 := hbE.size
          have HO := Lib.hid (And.intro hown2 (And.intro hbE hs2))
          clear hown2 hbE hb2 hs2
          go_wp2_with (at_builtin; refine push_k rfl (.tmp 52) (.tmp 55) 132 rfl w.heap.size 164 (.agg #[.int .u8 0, .string ⟨#[]⟩, .int .i64 0, .bool false]) 4 40 Tryz.underlying132 info_tok4 rfl (by decide) w2 _ _ _ [.int .u8 113, .string ⟨q.toArray⟩, .int .i64 0, .bool false] rfl rfl HO.out.1 rfl (by exact dtC_one ⟨113, q, 0, false⟩) (by omega) (by decide) HO.out.2.2 ?_; intro A1 cc w3 hown3 hb3; have HP := Lib.hid (And.intro hown3 hb3); clear hown3 hb3)
          refine ⟨⟨k + n, ts ++ [⟨113, q, 0, false⟩], by omega, by simp; omega, ret_i (by omega), ?_, HO.out.2.1.trans HP.out.2, Lib.hid ?_⟩, by simp only [intOf]; omega⟩
          · have h := HP.out.1
            rw [List.length_append, dtsC_snoc]
            exact h
          · rw [← HN.out]
            simp only [Option.map_map, Option.map_some, List.drop_drop]
            congr 1
            funext y
            simp
      rw [if_neg h4] at HK2
      have e34 : ((x : Int) == 34) = false := by rw [beq_eq_false_iff_ne]; omega
      clear h4
      cases lb with
      | true =>
        have hd0 := hld rfl
        subst hd0
        rw [if_pos rfl] at HK2
        have hrun := fun W => rrun_any l k false hl hk W
        simp only [Bool.false_eq_true, if_false] at hrun
        have hle := Pl.span_le Pl.lodB (l.drop k)
        rw [List.length_drop] at hle
        have hpos : 1 ≤ Pl.spanN Pl.lodB (l.drop k) := HS.out rfl
        obtain ⟨n, hn⟩ : ∃ n, Pl.spanN Pl.lodB (l.drop k) = n := ⟨_, rfl⟩
        rw [hn] at hrun HK2 hle hpos
        have HRu := Lib.hid hrun
        have HN := Lib.hid HK2
        clear hrun HK2 hn hld
        go_wp2_with fail
        refine (HI.out _).mono ?_
        rintro y w2 ⟨rfl, rfl⟩
        go_wp2_with fail
        refine (HF.out.2.1 _).mono ?_
        rintro y w2 ⟨rfl, rfl⟩
        simp only [Bool.true_or]
        go_wp2_with fail
        refine (HF.out.2.2 _).mono ?_
        rintro y w2 ⟨rfl, rfl⟩
        go_wp2_with fail
        (with_reducible refine (HRu.out _).mono ?_)
        rintro y w2 ⟨rfl, rfl⟩
        have hkn : (k + n) - k = n := by omega
        go_wp2_with (at_builtin; refine push_k rfl (.tmp 70) (.tmp 76) 132 rfl w.heap.size 164 (.agg #[.int .u8 0, .string ⟨#[]⟩, .int .i64 0, .bool false]) 4 40 Tryz.underlying132 info_tok4 rfl (by decide) wr _ _ _ [.int .u8 119, .string ⟨((l.drop k).take n).toArray⟩, .int .i64 0, .bool false] rfl rfl HX.out.1 rfl (by exact dtC_one ⟨119, (l.drop k).take n, 0, false⟩) (by omega) (by decide) HX.out.2.2.1 ?_; intro A1 cc w3 hown3 hb3; have HP := Lib.hid (And.intro hown3 hb3); clear hown3 hb3)
        refine ⟨⟨k + n, ts ++ [⟨119, (l.drop k).take n, 0, false⟩], by omega, by simp; omega, ret_i (by omega), ?_, HX.out.2.1.trans HP.out.2, Lib.hid ?_⟩, by simp only [intOf]; omega⟩
        · have h := HP.out.1
          rw [List.length_append, dtsC_snoc]
          exact h
        · rw [← HN.out]
          simp only [Option.map_map, Option.map_some, List.drop_drop]
          congr 1
          funext y
          simp
      | false =>
        rw [if_neg (by decide)] at HK2
        obtain ⟨sg, hsg⟩ : ∃ sg, (if x = 45 then 1 else 0) = sg := ⟨_, rfl⟩
        rw [hsg] at HK2
        have hks : k + sg ≤ l.length := by
          rw [← hsg]; split <;> omega
        have hrun := fun W => rrun_any l (k + sg) true hl hks W
        simp only [if_true] at hrun
        have hle := Pl.span_le Pl.digB (l.drop (k + sg))
        rw [List.length_drop] at hle
        have hgs := HG.out sg (Pl.spanN Pl.digB (l.drop (k + sg))) (by rw [HX.out.2.2.2]; exact hsg.symm) (by rw [List.drop_drop])
        obtain ⟨m, hm⟩ : ∃ m, Pl.spanN Pl.digB (l.drop (k + sg)) = m := ⟨_, rfl⟩
        rw [hm] at hrun HK2 hle hgs
        have HRu := Lib.hid hrun
        clear hrun hm hld
        have hsx : (x = 45 ∧ sg = 1) ∨ (x ≠ 45 ∧ sg = 0) := by
          by_cases h : x = 45
          · rw [if_pos h] at hsg; exact .inl ⟨h, hsg.symm⟩
          · rw [if_neg h] at hsg; exact .inr ⟨h, hsg.symm⟩
        by_cases hm0 : m = 0
        · rw [if_pos hm0] at HK2
          subst hm0
          have HRn := Lib.hid (show R = none from HK2.symm)
          clear HK2 hgs hsg
          rcases hsx with ⟨g, rfl⟩ | ⟨g, rfl⟩
          · subst g
            have HR1 : ∀ W, Calls Tryz.prog 114 #[.string ⟨l.toArray⟩, .int .i64 ((k : Int) + 1), .bool true] W (Ret (.int .i64 ((k : Int) + 1)) W) := fun W => by
              have h := HRu.out W
              simp only [Nat.add_zero] at h
              rw [show ((k + 1 : Nat) : Int) = (k : Int) + 1 by omega] at h
              exact h
            have HR2 := Lib.hid HR1
            clear HR1 HRu
            go_wp2_with fail
            refine (HI.out _).mono ?_
            rintro y w2 ⟨rfl, rfl⟩
            go_wp2_with fail
            refine (HF.out.2.1 _).mono ?_
            rintro y w2 ⟨rfl, rfl⟩
            simp only [Bool.false_or]
            cases db with
            | true =>
              go_wp2_with fail
              refine (HF.out.2.2 _).mono ?_
              rintro y w2 ⟨rfl, rfl⟩
              go_wp2_with fail
              (with_reducible refine (HR2.out _).mono ?_)
              rintro y w2 ⟨rfl, rfl⟩
              go_wp2_with fail
              go_ret2
              refine ⟨_, rfl, ?_, HX.out.2.1.alloc HX.out.2.2.1 _⟩
              rw [HRn.out]
              exact ⟨_, _, _, rfl⟩
            | false =>
              go_wp2_with fail
              (with_reducible refine (HR2.out _).mono ?_)
              rintro y w2 ⟨rfl, rfl⟩
              go_wp2_with fail
              go_ret2
              refine ⟨_, rfl, ?_, HX.out.2.1.alloc HX.out.2.2.1 _⟩
              rw [HRn.out]
              exact ⟨_, _, _, rfl⟩
          · have e45 : ((x : Int) == 45) = false := by rw [beq_eq_false_iff_ne]; omega
            clear g
            have HR1 : ∀ W, Calls Tryz.prog 114 #[.string ⟨l.toArray⟩, .int .i64 ((k : Int)), .bool true] W (Ret (.int .i64 ((k : Int))) W) := fun W => by
              have h := HRu.out W
              simp only [Nat.add_zero] at h
              skip
              exact h
            have HR2 := Lib.hid HR1
            clear HR1 HRu
            go_wp2_with fail
            refine (HI.out _).mono ?_
            rintro y w2 ⟨rfl, rfl⟩
            go_wp2_with fail
            refine (HF.out.2.1 _).mono ?_
            rintro y w2 ⟨rfl, rfl⟩
            simp only [Bool.false_or]
            cases db with
            | true =>
              go_wp2_with fail
              refine (HF.out.2.2 _).mono ?_
              rintro y w2 ⟨rfl, rfl⟩
              go_wp2_with fail
              (with_reducible refine (HR2.out _).mono ?_)
              rintro y w2 ⟨rfl, rfl⟩
              go_wp2_with fail
              go_ret2
              refine ⟨_, rfl, ?_, HX.out.2.1.alloc HX.out.2.2.1 _⟩
              rw [HRn.out]
              exact ⟨_, _, _, rfl⟩
            | false =>
              go_wp2_with fail
              (with_reducible refine (HR2.out _).mono ?_)
              rintro y w2 ⟨rfl, rfl⟩
              go_wp2_with fail
              go_ret2
              refine ⟨_, rfl, ?_, HX.out.2.1.alloc HX.out.2.2.1 _⟩
              rw [HRn.out]
              exact ⟨_, _, _, rfl⟩
        · rw [if_neg hm0] at HK2
          obtain ⟨g1, g2, g3⟩ := hgs hm0
          have hdg : ∀ c ∈ (if ((l.drop k).take (sg + m)).head? = some 45 then ((l.drop k).take (sg + m)).drop 1 else (l.drop k).take (sg + m)), Pl.digB c = true := by
            by_cases h : ((l.drop k).take (sg + m)).head? = some 45
            · rw [if_pos h] at g1; rw [if_pos h, ← g1]; exact g2
            · rw [if_neg h] at g1; rw [if_neg h]; rw [g1, List.drop_zero] at g2; rw [g1]; exact g2
          have hnum := fun W => rnumber_any ((l.drop k).take (sg + m)) (by rw [List.length_take, List.length_drop]; omega) (by intro h; rw [h] at g3; simp at g3) hdg W
          obtain ⟨D, hD⟩ : ∃ D, Pl.numD ((l.drop k).take (sg + m)) = D := ⟨_, rfl⟩
          rw [hD] at hnum HK2
          have HNu := Lib.hid hnum
          have HN := Lib.hid HK2
          clear HK2 g1 g2 g3 hdg hnum hgs hD hsg
          have hm1 : 1 ≤ m := by omega
          have hms : ((m : Int) == 0) = false := by rw [beq_eq_false_iff_ne]; omega
          clear hm0
          rcases hsx with ⟨g, rfl⟩ | ⟨g, rfl⟩
          · subst g
            obtain ⟨e, he⟩ : ∃ e, k + 1 + m = e := ⟨_, rfl⟩
            have HR1 : ∀ W, Calls Tryz.prog 114 #[.string ⟨l.toArray⟩, .int .i64 ((k : Int) + 1), .bool true] W (Ret (.int .i64 (e : Int)) W) := fun W => by
              have h := HRu.out W
              rw [show ((k + 1 : Nat) : Int) = (k : Int) + 1 by omega, he] at h
              exact h
            have HR2 := Lib.hid HR1
            have hee : ((e : Int) == (k : Int) + 1) = false := by rw [beq_eq_false_iff_ne]; omega
            clear HR1 HRu
            have HN2 : Hid (∀ W, Calls Tryz.prog 115 #[.string ⟨((l.drop k).take (e - k)).toArray⟩] W (RetB (fun v _ => v = dtV D) W)) := Lib.hid fun W => by
              have h := HNu.out W
              rw [show 1 + m = e - k by omega] at h
              exact h
            clear HNu
            go_wp2_with fail
            refine (HI.out _).mono ?_
            rintro y w2 ⟨rfl, rfl⟩
            go_wp2_with fail
            refine (HF.out.2.1 _).mono ?_
            rintro y w2 ⟨rfl, rfl⟩
            simp only [Bool.false_or]
            cases db with
            | true =>
              go_wp2_with fail
              refine (HF.out.2.2 _).mono ?_
              rintro y w2 ⟨rfl, rfl⟩
              go_wp2_with fail
              (with_reducible refine (HR2.out _).mono ?_)
              rintro y w2 ⟨rfl, rfl⟩
              go_wp2_with fail
              (with_reducible refine (HN2.out _).mono ?_)
              rintro y w2 ⟨v, rfl, rfl, hb2⟩
              rw [show dtV D = .agg #[.int .u8 (D.k : Int), .string ⟨D.s.toArray⟩, .int .i64 D.n, .bool D.big] from rfl]
              have hown2 := own_below HX.out.1 hb2
              have hbE : Below w.heap.size w w2 := HX.out.2.1.trans (hb2.mono HX.out.2.2.1)
              have hs2 := hbE.size
              have HO := Lib.hid (And.intro hown2 (And.intro hbE hs2))
              clear hown2 hbE hb2 hs2
              go_wp2_with (at_builtin; refine push_k rfl (.tmp 91) (.tmp 97) 132 rfl w.heap.size 164 (.agg #[.int .u8 0, .string ⟨#[]⟩, .int .i64 0, .bool false]) 4 40 Tryz.underlying132 info_tok4 rfl (by decide) w2 _ _ _ (dtC D) rfl rfl HO.out.1 rfl (by exact dtC_one D) (by omega) (by decide) HO.out.2.2 ?_; intro A1 cc w3 hown3 hb3; have HP := Lib.hid (And.intro hown3 hb3); clear hown3 hb3)
              refine ⟨⟨k + (1 + m), ts ++ [D], by omega, by simp; omega, ret_i (by omega), ?_, HO.out.2.1.trans HP.out.2, Lib.hid ?_⟩, by simp only [intOf]; omega⟩
              · have h := HP.out.1
                rw [List.length_append, dtsC_snoc]
                exact h
              · rw [← HN.out]
                simp only [Option.map_map, Option.map_some, List.drop_drop]
                congr 1
                funext y
                simp
            | false =>
              go_wp2_with fail
              (with_reducible refine (HR2.out _).mono ?_)
              rintro y w2 ⟨rfl, rfl⟩
              go_wp2_with fail
              (with_reducible refine (HN2.out _).mono ?_)
              rintro y w2 ⟨v, rfl, rfl, hb2⟩
              rw [show dtV D = .agg #[.int .u8 (D.k : Int), .string ⟨D.s.toArray⟩, .int .i64 D.n, .bool D.big] from rfl]
              have hown2 := own_below HX.out.1 hb2
              have hbE : Below w.heap.size w w2 := HX.out.2.1.trans (hb2.mono HX.out.2.2.1)
              have hs2 := hbE.size
              have HO := Lib.hid (And.intro hown2 (And.intro hbE hs2))
              clear hown2 hbE hb2 hs2
              go_wp2_with (at_builtin; refine push_k rfl (.tmp 91) (.tmp 97) 132 rfl w.heap.size 164 (.agg #[.int .u8 0, .string ⟨#[]⟩, .int .i64 0, .bool false]) 4 40 Tryz.underlying132 info_tok4 rfl (by decide) w2 _ _ _ (dtC D) rfl rfl HO.out.1 rfl (by exact dtC_one D) (by omega) (by decide) HO.out.2.2 ?_; intro A1 cc w3 hown3 hb3; have HP := Lib.hid (And.intro hown3 hb3); clear hown3 hb3)
              refine ⟨⟨k + (1 + m), ts ++ [D], by omega, by simp; omega, ret_i (by omega), ?_, HO.out.2.1.trans HP.out.2, Lib.hid ?_⟩, by simp only [intOf]; omega⟩
              · have h := HP.out.1
                rw [List.length_append, dtsC_snoc]
                exact h
              · rw [← HN.out]
                simp only [Option.map_map, Option.map_some, List.drop_drop]
                congr 1
                funext y
                simp
          · have e45 : ((x : Int) == 45) = false := by rw [beq_eq_false_iff_ne]; omega
            clear g
            obtain ⟨e, he⟩ : ∃ e, k + 0 + m = e := ⟨_, rfl⟩
            have HR1 : ∀ W, Calls Tryz.prog 114 #[.string ⟨l.toArray⟩, .int .i64 ((k : Int)), .bool true] W (Ret (.int .i64 (e : Int)) W) := fun W => by
              have h := HRu.out W
              rw [show ((k + 0 : Nat) : Int) = (k : Int) by omega, he] at h
              exact h
            have HR2 := Lib.hid HR1
            have hee : ((e : Int) == (k : Int)) = false := by rw [beq_eq_false_iff_ne]; omega
            clear HR1 HRu
            have HN2 : Hid (∀ W, Calls Tryz.prog 115 #[.string ⟨((l.drop k).take (e - k)).toArray⟩] W (RetB (fun v _ => v = dtV D) W)) := Lib.hid fun W => by
              have h := HNu.out W
              rw [show 0 + m = e - k by omega] at h
              exact h
            clear HNu
            go_wp2_with fail
            refine (HI.out _).mono ?_
            rintro y w2 ⟨rfl, rfl⟩
            go_wp2_with fail
            refine (HF.out.2.1 _).mono ?_
            rintro y w2 ⟨rfl, rfl⟩
            simp only [Bool.false_or]
            cases db with
            | true =>
              go_wp2_with fail
              refine (HF.out.2.2 _).mono ?_
              rintro y w2 ⟨rfl, rfl⟩
              go_wp2_with fail
              (with_reducible refine (HR2.out _).mono ?_)
              rintro y w2 ⟨rfl, rfl⟩
              go_wp2_with fail
              (with_reducible refine (HN2.out _).mono ?_)
              rintro y w2 ⟨v, rfl, rfl, hb2⟩
              rw [show dtV D = .agg #[.int .u8 (D.k : Int), .string ⟨D.s.toArray⟩, .int .i64 D.n, .bool D.big] from rfl]
              have hown2 := own_below HX.out.1 hb2
              have hbE : Below w.heap.size w w2 := HX.out.2.1.trans (hb2.mono HX.out.2.2.1)
              have hs2 := hbE.size
              have HO := Lib.hid (And.intro hown2 (And.intro hbE hs2))
              clear hown2 hbE hb2 hs2
              go_wp2_with (at_builtin; refine push_k rfl (.tmp 91) (.tmp 97) 132 rfl w.heap.size 164 (.agg #[.int .u8 0, .string ⟨#[]⟩, .int .i64 0, .bool false]) 4 40 Tryz.underlying132 info_tok4 rfl (by decide) w2 _ _ _ (dtC D) rfl rfl HO.out.1 rfl (by exact dtC_one D) (by omega) (by decide) HO.out.2.2 ?_; intro A1 cc w3 hown3 hb3; have HP := Lib.hid (And.intro hown3 hb3); clear hown3 hb3)
              refine ⟨⟨k + (0 + m), ts ++ [D], by omega, by simp; omega, ret_i (by omega), ?_, HO.out.2.1.trans HP.out.2, Lib.hid ?_⟩, by simp only [intOf]; omega⟩
              · have h := HP.out.1
                rw [List.length_append, dtsC_snoc]
                exact h
              · rw [← HN.out]
                simp only [Option.map_map, Option.map_some, List.drop_drop]
                congr 1
                funext y
                simp
            | false =>
              go_wp2_with fail
              (with_reducible refine (HR2.out _).mono ?_)
              rintro y w2 ⟨rfl, rfl⟩
              go_wp2_with fail
              (with_reducible refine (HN2.out _).mono ?_)
              rintro y w2 ⟨v, rfl, rfl, hb2⟩
              rw [show dtV D = .agg #[.int .u8 (D.k : Int), .string ⟨D.s.toArray⟩, .int .i64 D.n, .bool D.big] from rfl]
              have hown2 := own_below HX.out.1 hb2
              have hbE : Below w.heap.size w w2 := HX.out.2.1.trans (hb2.mono HX.out.2.2.1)
              have hs2 := hbE.size
              have HO := Lib.hid (And.intro hown2 (And.intro hbE hs2))
              clear hown2 hbE hb2 hs2
              go_wp2_with (at_builtin; refine push_k rfl (.tmp 91) (.tmp 97) 132 rfl w.heap.size 164 (.agg #[.int .u8 0, .string ⟨#[]⟩, .int .i64 0, .bool false]) 4 40 Tryz.underlying132 info_tok4 rfl (by decide) w2 _ _ _ (dtC D) rfl rfl HO.out.1 rfl (by exact dtC_one D) (by omega) (by decide) HO.out.2.2 ?_; intro A1 cc w3 hown3 hb3; have HP := Lib.hid (And.intro hown3 hb3); clear hown3 hb3)
              refine ⟨⟨k + (0 + m), ts ++ [D], by omega, by simp; omega, ret_i (by omega), ?_, HO.out.2.1.trans HP.out.2, Lib.hid ?_⟩, by simp only [intOf]; omega⟩
              · have h := HP.out.1
                rw [List.length_append, dtsC_snoc]
                exact h
              · rw [← HN.out]
                simp only [Option.map_map, Option.map_some, List.drop_drop]
                congr 1
                funext y
                simp
    · have HN := Lib.hid (show R = some ts by rw [← HK.out, List.drop_eq_nil_of_le (by omega), Pl.toksD_nil]; simp)
      have HX := Lib.hid (And.intro hown hbw)
      clear HK hown hbw hhi
      go_wp2_with fail
      go_ret2
      refine ⟨_, rfl, ?_, HX.out.2⟩
      rw [HN.out]
      exact ⟨_, _, rfl, Rd.own HX.out.1⟩
end Go.Proofs.YtmmnkoeajdeldaaGreatDoor
