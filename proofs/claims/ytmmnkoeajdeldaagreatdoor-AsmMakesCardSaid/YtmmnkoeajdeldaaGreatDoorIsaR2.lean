/- The walks of the document's Form, plain, Enc, of instructions. The walk of the document's Enc. -/
import Derived.Test.YtmmnkoeajdeldaaGreatDoorIsaW1
import Derived.Test.YtmmnkoeajdeldaaGreatDoorAsDc
namespace Go.Proofs.YtmmnkoeajdeldaaGreatDoor
open Go.RowKit
set_option linter.unusedVariables false
set_option linter.unusedSimpArgs false
set_option maxRecDepth 100000 in
set_option maxHeartbeats 2000000 in
theorem rform_any (op : Nat) (w : World) (h : op < 256) : Calls Tryz.prog 83 #[.int .u8 (op : Int)] w (Ret (.int .i64 (Pl.formN op : Int)) w) := by
  obtain ⟨k, hk⟩ : ∃ k, Pl.formN op = k := ⟨_, rfl⟩
  have hc : (k = 0 ∧ op < 1) ∨ (k = 1 ∧ 1 ≤ op ∧ op ≤ 13) ∨ (k = 2 ∧ 14 ≤ op ∧ op ≤ 18) ∨ (k = 2 ∧ 25 ≤ op ∧ op ≤ 28) ∨ (k = 3 ∧ op = 19) ∨ (k = 3 ∧ op = 29) ∨ (k = 4 ∧ 20 ≤ op ∧ op ≤ 24) ∨ (k = 4 ∧ op = 30) ∨ (k = 5 ∧ op = 31) ∨ (k = 0 ∧ 31 < op) := by
    rw [← hk]; unfold Pl.formN; (repeat' split) <;> omega
  have h19 : op < 19 ∨ 19 < op → ((op : Int) == 19) = false := fun h => by rw [beq_eq_false_iff_ne]; omega
  have h29 : op < 29 ∨ 29 < op → ((op : Int) == 29) = false := fun h => by rw [beq_eq_false_iff_ne]; omega
  have h30 : op < 30 ∨ 30 < op → ((op : Int) == 30) = false := fun h => by rw [beq_eq_false_iff_ne]; omega
  have h31 : op < 31 ∨ 31 < op → ((op : Int) == 31) = false := fun h => by rw [beq_eq_false_iff_ne]; omega
  rw [hk]
  clear hk
  rcases hc with ⟨rfl, h1⟩ | ⟨rfl, h1, h2⟩ | ⟨rfl, h1, h2⟩ | ⟨rfl, h1, h2⟩ | ⟨rfl, rfl⟩ | ⟨rfl, rfl⟩ | ⟨rfl, h1, h2⟩ | ⟨rfl, rfl⟩ | ⟨rfl, rfl⟩ | ⟨rfl, h1⟩
  all_goals try replace h19 := h19 (by omega)
  all_goals try replace h29 := h29 (by omega)
  all_goals try replace h30 := h30 (by omega)
  all_goals try replace h31 := h31 (by omega)
  all_goals go_enter Tryz.func83, Tryz.ntmps83
  all_goals go_wp2_with fail
  all_goals go_ret
  all_goals exact ⟨rfl, rfl⟩
set_option maxRecDepth 100000 in
set_option maxHeartbeats 1000000 in
theorem rplain_any (op : Nat) (w : World) (h : op < 256) : Calls Tryz.prog 84 #[.int .u8 (op : Int)] w (Ret (.bool (Pl.usg op)) w) := by
  obtain ⟨k, hk⟩ : ∃ k, Pl.usg op = k := ⟨_, rfl⟩
  rw [hk]
  have HK := Lib.hid hk; clear hk
  go_enter Tryz.func84, Tryz.ntmps84
  go_wp2_with fail
  all_goals go_ret
  all_goals
    refine ⟨?_, rfl⟩
    show Ending.returned (Value.bool _) = Ending.returned (Value.bool _)
    congr 2
    rw [← HK.out]
    unfold Pl.usg
    rw [Bool.eq_iff_iff]
    simp
    omega
end Go.Proofs.YtmmnkoeajdeldaaGreatDoor
namespace Go.Proofs.YtmmnkoeajdeldaaGreatDoor
open Go.RowKit
set_option linter.unusedVariables false
set_option linter.unusedSimpArgs false
theorem encE_form (x : Pl.Ins) : Pl.encE x = if Pl.formN x.op = 0 then 16 else if 15 < x.a ∨ 15 < x.b ∨ 15 < x.c then 1 else if (Pl.formN x.op = 5 ∧ x.a ≠ 0) ∨ ((Pl.formN x.op = 3 ∨ Pl.formN x.op = 5) ∧ x.b ≠ 0) ∨ (Pl.formN x.op ≠ 1 ∧ x.c ≠ 0) ∨ (Pl.formN x.op = 1 ∧ x.imm ≠ 0) then 1 else if Pl.formN x.op ≠ 1 ∧ Pl.fits x.op x.imm = false then 2 else 0 := by
  have hc : (Pl.formN x.op = 0 ∧ Pl.cls x.op = 0) ∨ (Pl.formN x.op = 1 ∧ Pl.cls x.op = 1) ∨ (Pl.formN x.op = 2 ∧ Pl.cls x.op = 4) ∨ (Pl.formN x.op = 3 ∧ Pl.cls x.op = 2) ∨ (Pl.formN x.op = 4 ∧ Pl.cls x.op = 4) ∨ (Pl.formN x.op = 5 ∧ Pl.cls x.op = 3) := by
    unfold Pl.formN Pl.cls; (repeat' split) <;> omega
  unfold Pl.encE
  rcases hc with ⟨h, h'⟩ | ⟨h, h'⟩ | ⟨h, h'⟩ | ⟨h, h'⟩ | ⟨h, h'⟩ | ⟨h, h'⟩ <;> rw [h, h'] <;> simp [Pl.over] <;> (repeat' split) <;> first | rfl | omega
theorem word_sum (op a b c : Nat) (imm : Int) : (((op : Int) * 16 + a) * 16 + b) * 262144 + c * 16384 + (Pl.low imm : Nat) = (Pl.wordOf ⟨op, a, b, c, imm⟩ : Nat) := by
  unfold Pl.wordOf
  simp only
  omega
set_option maxRecDepth 100000 in
set_option maxHeartbeats 4000000 in
theorem renc_any (x : Pl.Ins) (w : World) (h : Pl.InsOk x) : Calls Tryz.prog 76 #[insV x] w (RetB (fun v _ => v = encV x) w) := by
  have hE := encE_form x
  have hfo := fun w => rform_any x.op w h.op
  have hpl := fun w => rplain_any x.op w h.op
  obtain ⟨k, hk⟩ : ∃ k, Pl.formN x.op = k := ⟨_, rfl⟩
  obtain ⟨u, hu⟩ : ∃ u, Pl.usg x.op = u := ⟨_, rfl⟩
  have hk5 : k ≤ 5 := by rw [← hk]; unfold Pl.formN; (repeat' split) <;> omega
  have hop : k ≠ 0 → x.op < 32 := by rw [← hk]; unfold Pl.formN; (repeat' split) <;> omega
  unfold Pl.fits at hE
  rw [hk, hu] at hE
  rw [hk] at hfo
  rw [hu] at hpl
  obtain ⟨op, a, b, c, imm⟩ := x
  obtain ⟨h1, h2, h3, h4, h5, h6⟩ := h
  unfold insV
  simp only at h1 h2 h3 h4 h5 h6 hfo hpl hE hop ⊢
  have hlow : 0 ≤ imm → imm ≤ 65535 → (Pl.low imm : Int) = imm := fun _ _ => by unfold Pl.low; omega
  have hlow2 : imm < 0 → -32768 ≤ imm → (Pl.low imm : Int) = imm + 65536 := fun _ _ => by unfold Pl.low; omega
  have hws := word_sum op a b c imm
  have HK := Lib.hid (And.intro hfo (And.intro hpl (And.intro hE (And.intro hlow (And.intro hlow2 hws))))); clear hfo hpl hE hk hu hlow hlow2 hws
  go_enter Tryz.func76, Tryz.ntmps76
  go_wp2_with fail
  (with_reducible refine (HK.out.1 _).mono ?_)
  rintro e w1 ⟨rfl, rfl⟩
  have hbw1 : Below w.heap.size w (w.alloc (.cells #[.int .u8 (op : Int), .int .u8 (a : Int), .int .u8 (b : Int), .int .u8 (c : Int), .int .i32 imm] 33)) := (Below.refl _ _).alloc (Nat.le_refl _) _
  by_cases hk0 : k = 0
  · subst hk0
    have hE2 := Lib.hid (HK.out.2.2.1.trans (if_pos rfl))
    go_wp2_with fail
    go_ret2
    exact ⟨_, rfl, (encV_err hE2.out (by decide)).symm, hbw1⟩
  replace hop := hop hk0
  by_cases ha : 15 < a
  · have hE2 := Lib.hid (HK.out.2.2.1.trans ((if_neg hk0).trans (if_pos (.inl ha))))
    have hk0' : ((k : Int) == 0) = false := by rw [beq_eq_false_iff_ne]; omega
    go_wp2_with fail
    go_ret2
    exact ⟨_, rfl, (encV_err hE2.out (by decide)).symm, hbw1⟩
  by_cases hb : 15 < b
  · have hE2 := Lib.hid (HK.out.2.2.1.trans ((if_neg hk0).trans (if_pos (.inr (.inl hb)))))
    have hk0' : ((k : Int) == 0) = false := by rw [beq_eq_false_iff_ne]; omega
    go_wp2_with fail
    go_ret2
    exact ⟨_, rfl, (encV_err hE2.out (by decide)).symm, hbw1⟩
  by_cases hc : 15 < c
  · have hE2 := Lib.hid (HK.out.2.2.1.trans ((if_neg hk0).trans (if_pos (.inr (.inr hc)))))
    have hk0' : ((k : Int) == 0) = false := by rw [beq_eq_false_iff_ne]; omega
    go_wp2_with fail
    go_ret2
    exact ⟨_, rfl, (encV_err hE2.out (by decide)).symm, hbw1⟩
  have hE := HK.out.2.2.1
  rw [if_neg hk0, if_neg (by omega)] at hE
  have HE := Lib.hid hE
  clear hE
  obtain rfl | rfl | rfl | rfl | rfl : k = 1 ∨ k = 2 ∨ k = 3 ∨ k = 4 ∨ k = 5 := by omega
  · by_cases hi : imm = 0
    · subst hi
      have hE2 := HE.out
      rw [if_neg (by simp), if_neg (by simp)] at hE2
      have HE2 := Lib.hid hE2
      clear hE2
      go_wp2_with fail
      go_ret2
      refine ⟨_, rfl, (Eq.trans ?_ (encV_ok HE2.out).symm), hbw1⟩
      refine congrArg (fun z : Int => Value.tuple #[.int .u32 z, .int .i64 0]) (?_ : _ = ((Pl.wordOf _ : Nat) : Int))
      rw [← HK.out.2.2.2.2.2, show Pl.low 0 = 0 from rfl]
      simp
    · have hE2 := HE.out
      rw [if_pos (by simp [hi])] at hE2
      have HE2 := Lib.hid hE2
      have hi2 : (imm == 0) = false := by simpa using hi
      clear hE2
      go_wp2_with fail
      go_ret2
      exact ⟨_, rfl, (encV_err HE2.out (by decide)).symm, hbw1⟩
  · by_cases hc0 : c = 0
    rotate_left
    · have hE2 := HE.out
      rw [if_pos (by simp [hc0])] at hE2
      have HE2 := Lib.hid hE2
      have hi2 : ((c : Int) == 0) = false := by rw [beq_eq_false_iff_ne]; omega
      clear hE2
      go_wp2_with fail
      go_ret2
      exact ⟨_, rfl, (encV_err HE2.out (by decide)).symm, hbw1⟩
    subst hc0
    have hE2 := HE.out
    rw [if_neg (by simp)] at hE2
    have HE2 := Lib.hid hE2
    clear hE2 HE
    go_wp2_with fail
    (with_reducible refine (HK.out.2.1 _).mono ?_)
    rintro e w1 ⟨rfl, rfl⟩
    cases u
    · by_cases hi : imm < -32768
      · have HE3 := Lib.hid (HE2.out.trans (if_pos ⟨by decide, by simp; omega⟩))
        go_wp2_with fail
        go_ret2
        exact ⟨_, rfl, (encV_err HE3.out (by decide)).symm, hbw1⟩
      by_cases hi1 : 32767 < imm
      · have HE3 := Lib.hid (HE2.out.trans (if_pos ⟨by decide, by simp; omega⟩))
        go_wp2_with fail
        go_ret2
        exact ⟨_, rfl, (encV_err HE3.out (by decide)).symm, hbw1⟩
      by_cases hi2 : imm < 0
      · have HE3 := Lib.hid (HE2.out.trans (if_neg (fun h => by have := h.2; simp at this; omega)))
        go_wp2_with fail
        go_ret2
        refine ⟨_, rfl, (Eq.trans ?_ (encV_ok HE3.out).symm), hbw1⟩
        refine congrArg (fun z : Int => Value.tuple #[.int .u32 z, .int .i64 0]) (?_ : _ = ((Pl.wordOf _ : Nat) : Int))
        rw [← HK.out.2.2.2.2.2, HK.out.2.2.2.2.1 hi2 (by omega)]
        simp
      · have HE3 := Lib.hid (HE2.out.trans (if_neg (fun h => by have := h.2; simp at this; omega)))
        go_wp2_with fail
        go_ret2
        refine ⟨_, rfl, (Eq.trans ?_ (encV_ok HE3.out).symm), hbw1⟩
        refine congrArg (fun z : Int => Value.tuple #[.int .u32 z, .int .i64 0]) (?_ : _ = ((Pl.wordOf _ : Nat) : Int))
        rw [← HK.out.2.2.2.2.2, HK.out.2.2.2.1 (by omega) (by omega)]
        simp
    · by_cases hi : imm < 0
      · have HE3 := Lib.hid (HE2.out.trans (if_pos ⟨by decide, by simp; omega⟩))
        go_wp2_with fail
        go_ret2
        exact ⟨_, rfl, (encV_err HE3.out (by decide)).symm, hbw1⟩
      by_cases hi1 : 65535 < imm
      · have HE3 := Lib.hid (HE2.out.trans (if_pos ⟨by decide, by simp; omega⟩))
        go_wp2_with fail
        go_ret2
        exact ⟨_, rfl, (encV_err HE3.out (by decide)).symm, hbw1⟩
      · have HE3 := Lib.hid (HE2.out.trans (if_neg (fun h => by have := h.2; simp at this; omega)))
        go_wp2_with fail
        go_ret2
        refine ⟨_, rfl, (Eq.trans ?_ (encV_ok HE3.out).symm), hbw1⟩
        refine congrArg (fun z : Int => Value.tuple #[.int .u32 z, .int .i64 0]) (?_ : _ = ((Pl.wordOf _ : Nat) : Int))
        rw [← HK.out.2.2.2.2.2, HK.out.2.2.2.1 (by omega) (by omega)]
        simp
  · by_cases hb0 : b = 0
    rotate_left
    · have hE2 := HE.out
      rw [if_pos (by simp [hb0])] at hE2
      have HE2 := Lib.hid hE2
      have hi2 : ((b : Int) == 0) = false := by rw [beq_eq_false_iff_ne]; omega
      clear hE2
      go_wp2_with fail
      go_ret2
      exact ⟨_, rfl, (encV_err HE2.out (by decide)).symm, hbw1⟩
    subst hb0
    by_cases hc0 : c = 0
    rotate_left
    · have hE2 := HE.out
      rw [if_pos (by simp [hc0])] at hE2
      have HE2 := Lib.hid hE2
      have hi2 : ((c : Int) == 0) = false := by rw [beq_eq_false_iff_ne]; omega
      clear hE2
      go_wp2_with fail
      go_ret2
      exact ⟨_, rfl, (encV_err HE2.out (by decide)).symm, hbw1⟩
    subst hc0
    have hE2 := HE.out
    rw [if_neg (by simp)] at hE2
    have HE2 := Lib.hid hE2
    clear hE2 HE
    go_wp2_with fail
    (with_reducible refine (HK.out.2.1 _).mono ?_)
    rintro e w1 ⟨rfl, rfl⟩
    cases u
    · by_cases hi : imm < -32768
      · have HE3 := Lib.hid (HE2.out.trans (if_pos ⟨by decide, by simp; omega⟩))
        go_wp2_with fail
        go_ret2
        exact ⟨_, rfl, (encV_err HE3.out (by decide)).symm, hbw1⟩
      by_cases hi1 : 32767 < imm
      · have HE3 := Lib.hid (HE2.out.trans (if_pos ⟨by decide, by simp; omega⟩))
        go_wp2_with fail
        go_ret2
        exact ⟨_, rfl, (encV_err HE3.out (by decide)).symm, hbw1⟩
      by_cases hi2 : imm < 0
      · have HE3 := Lib.hid (HE2.out.trans (if_neg (fun h => by have := h.2; simp at this; omega)))
        go_wp2_with fail
        go_ret2
        refine ⟨_, rfl, (Eq.trans ?_ (encV_ok HE3.out).symm), hbw1⟩
        refine congrArg (fun z : Int => Value.tuple #[.int .u32 z, .int .i64 0]) (?_ : _ = ((Pl.wordOf _ : Nat) : Int))
        rw [← HK.out.2.2.2.2.2, HK.out.2.2.2.2.1 hi2 (by omega)]
        simp
      · have HE3 := Lib.hid (HE2.out.trans (if_neg (fun h => by have := h.2; simp at this; omega)))
        go_wp2_with fail
        go_ret2
        refine ⟨_, rfl, (Eq.trans ?_ (encV_ok HE3.out).symm), hbw1⟩
        refine congrArg (fun z : Int => Value.tuple #[.int .u32 z, .int .i64 0]) (?_ : _ = ((Pl.wordOf _ : Nat) : Int))
        rw [← HK.out.2.2.2.2.2, HK.out.2.2.2.1 (by omega) (by omega)]
        simp
    · by_cases hi : imm < 0
      · have HE3 := Lib.hid (HE2.out.trans (if_pos ⟨by decide, by simp; omega⟩))
        go_wp2_with fail
        go_ret2
        exact ⟨_, rfl, (encV_err HE3.out (by decide)).symm, hbw1⟩
      by_cases hi1 : 65535 < imm
      · have HE3 := Lib.hid (HE2.out.trans (if_pos ⟨by decide, by simp; omega⟩))
        go_wp2_with fail
        go_ret2
        exact ⟨_, rfl, (encV_err HE3.out (by decide)).symm, hbw1⟩
      · have HE3 := Lib.hid (HE2.out.trans (if_neg (fun h => by have := h.2; simp at this; omega)))
        go_wp2_with fail
        go_ret2
        refine ⟨_, rfl, (Eq.trans ?_ (encV_ok HE3.out).symm), hbw1⟩
        refine congrArg (fun z : Int => Value.tuple #[.int .u32 z, .int .i64 0]) (?_ : _ = ((Pl.wordOf _ : Nat) : Int))
        rw [← HK.out.2.2.2.2.2, HK.out.2.2.2.1 (by omega) (by omega)]
        simp
  · by_cases hc0 : c = 0
    rotate_left
    · have hE2 := HE.out
      rw [if_pos (by simp [hc0])] at hE2
      have HE2 := Lib.hid hE2
      have hi2 : ((c : Int) == 0) = false := by rw [beq_eq_false_iff_ne]; omega
      clear hE2
      go_wp2_with fail
      go_ret2
      exact ⟨_, rfl, (encV_err HE2.out (by decide)).symm, hbw1⟩
    subst hc0
    have hE2 := HE.out
    rw [if_neg (by simp)] at hE2
    have HE2 := Lib.hid hE2
    clear hE2 HE
    go_wp2_with fail
    (with_reducible refine (HK.out.2.1 _).mono ?_)
    rintro e w1 ⟨rfl, rfl⟩
    cases u
    · by_cases hi : imm < -32768
      · have HE3 := Lib.hid (HE2.out.trans (if_pos ⟨by decide, by simp; omega⟩))
        go_wp2_with fail
        go_ret2
        exact ⟨_, rfl, (encV_err HE3.out (by decide)).symm, hbw1⟩
      by_cases hi1 : 32767 < imm
      · have HE3 := Lib.hid (HE2.out.trans (if_pos ⟨by decide, by simp; omega⟩))
        go_wp2_with fail
        go_ret2
        exact ⟨_, rfl, (encV_err HE3.out (by decide)).symm, hbw1⟩
      by_cases hi2 : imm < 0
      · have HE3 := Lib.hid (HE2.out.trans (if_neg (fun h => by have := h.2; simp at this; omega)))
        go_wp2_with fail
        go_ret2
        refine ⟨_, rfl, (Eq.trans ?_ (encV_ok HE3.out).symm), hbw1⟩
        refine congrArg (fun z : Int => Value.tuple #[.int .u32 z, .int .i64 0]) (?_ : _ = ((Pl.wordOf _ : Nat) : Int))
        rw [← HK.out.2.2.2.2.2, HK.out.2.2.2.2.1 hi2 (by omega)]
        simp
      · have HE3 := Lib.hid (HE2.out.trans (if_neg (fun h => by have := h.2; simp at this; omega)))
        go_wp2_with fail
        go_ret2
        refine ⟨_, rfl, (Eq.trans ?_ (encV_ok HE3.out).symm), hbw1⟩
        refine congrArg (fun z : Int => Value.tuple #[.int .u32 z, .int .i64 0]) (?_ : _ = ((Pl.wordOf _ : Nat) : Int))
        rw [← HK.out.2.2.2.2.2, HK.out.2.2.2.1 (by omega) (by omega)]
        simp
    · by_cases hi : imm < 0
      · have HE3 := Lib.hid (HE2.out.trans (if_pos ⟨by decide, by simp; omega⟩))
        go_wp2_with fail
        go_ret2
        exact ⟨_, rfl, (encV_err HE3.out (by decide)).symm, hbw1⟩
      by_cases hi1 : 65535 < imm
      · have HE3 := Lib.hid (HE2.out.trans (if_pos ⟨by decide, by simp; omega⟩))
        go_wp2_with fail
        go_ret2
        exact ⟨_, rfl, (encV_err HE3.out (by decide)).symm, hbw1⟩
      · have HE3 := Lib.hid (HE2.out.trans (if_neg (fun h => by have := h.2; simp at this; omega)))
        go_wp2_with fail
        go_ret2
        refine ⟨_, rfl, (Eq.trans ?_ (encV_ok HE3.out).symm), hbw1⟩
        refine congrArg (fun z : Int => Value.tuple #[.int .u32 z, .int .i64 0]) (?_ : _ = ((Pl.wordOf _ : Nat) : Int))
        rw [← HK.out.2.2.2.2.2, HK.out.2.2.2.1 (by omega) (by omega)]
        simp
  · by_cases ha0 : a = 0
    rotate_left
    · have hE2 := HE.out
      rw [if_pos (by simp [ha0])] at hE2
      have HE2 := Lib.hid hE2
      have hi2 : ((a : Int) == 0) = false := by rw [beq_eq_false_iff_ne]; omega
      clear hE2
      go_wp2_with fail
      go_ret2
      exact ⟨_, rfl, (encV_err HE2.out (by decide)).symm, hbw1⟩
    subst ha0
    by_cases hb0 : b = 0
    rotate_left
    · have hE2 := HE.out
      rw [if_pos (by simp [hb0])] at hE2
      have HE2 := Lib.hid hE2
      have hi2 : ((b : Int) == 0) = false := by rw [beq_eq_false_iff_ne]; omega
      clear hE2
      go_wp2_with fail
      go_ret2
      exact ⟨_, rfl, (encV_err HE2.out (by decide)).symm, hbw1⟩
    subst hb0
    by_cases hc0 : c = 0
    rotate_left
    · have hE2 := HE.out
      rw [if_pos (by simp [hc0])] at hE2
      have HE2 := Lib.hid hE2
      have hi2 : ((c : Int) == 0) = false := by rw [beq_eq_false_iff_ne]; omega
      clear hE2
      go_wp2_with fail
      go_ret2
      exact ⟨_, rfl, (encV_err HE2.out (by decide)).symm, hbw1⟩
    subst hc0
    have hE2 := HE.out
    rw [if_neg (by simp)] at hE2
    have HE2 := Lib.hid hE2
    clear hE2 HE
    go_wp2_with fail
    (with_reducible refine (HK.out.2.1 _).mono ?_)
    rintro e w1 ⟨rfl, rfl⟩
    cases u
    · by_cases hi : imm < -32768
      · have HE3 := Lib.hid (HE2.out.trans (if_pos ⟨by decide, by simp; omega⟩))
        go_wp2_with fail
        go_ret2
        exact ⟨_, rfl, (encV_err HE3.out (by decide)).symm, hbw1⟩
      by_cases hi1 : 32767 < imm
      · have HE3 := Lib.hid (HE2.out.trans (if_pos ⟨by decide, by simp; omega⟩))
        go_wp2_with fail
        go_ret2
        exact ⟨_, rfl, (encV_err HE3.out (by decide)).symm, hbw1⟩
      by_cases hi2 : imm < 0
      · have HE3 := Lib.hid (HE2.out.trans (if_neg (fun h => by have := h.2; simp at this; omega)))
        go_wp2_with fail
        go_ret2
        refine ⟨_, rfl, (Eq.trans ?_ (encV_ok HE3.out).symm), hbw1⟩
        refine congrArg (fun z : Int => Value.tuple #[.int .u32 z, .int .i64 0]) (?_ : _ = ((Pl.wordOf _ : Nat) : Int))
        rw [← HK.out.2.2.2.2.2, HK.out.2.2.2.2.1 hi2 (by omega)]
        simp
      · have HE3 := Lib.hid (HE2.out.trans (if_neg (fun h => by have := h.2; simp at this; omega)))
        go_wp2_with fail
        go_ret2
        refine ⟨_, rfl, (Eq.trans ?_ (encV_ok HE3.out).symm), hbw1⟩
        refine congrArg (fun z : Int => Value.tuple #[.int .u32 z, .int .i64 0]) (?_ : _ = ((Pl.wordOf _ : Nat) : Int))
        rw [← HK.out.2.2.2.2.2, HK.out.2.2.2.1 (by omega) (by omega)]
        simp
    · by_cases hi : imm < 0
      · have HE3 := Lib.hid (HE2.out.trans (if_pos ⟨by decide, by simp; omega⟩))
        go_wp2_with fail
        go_ret2
        exact ⟨_, rfl, (encV_err HE3.out (by decide)).symm, hbw1⟩
      by_cases hi1 : 65535 < imm
      · have HE3 := Lib.hid (HE2.out.trans (if_pos ⟨by decide, by simp; omega⟩))
        go_wp2_with fail
        go_ret2
        exact ⟨_, rfl, (encV_err HE3.out (by decide)).symm, hbw1⟩
      · have HE3 := Lib.hid (HE2.out.trans (if_neg (fun h => by have := h.2; simp at this; omega)))
        go_wp2_with fail
        go_ret2
        refine ⟨_, rfl, (Eq.trans ?_ (encV_ok HE3.out).symm), hbw1⟩
        refine congrArg (fun z : Int => Value.tuple #[.int .u32 z, .int .i64 0]) (?_ : _ = ((Pl.wordOf _ : Nat) : Int))
        rw [← HK.out.2.2.2.2.2, HK.out.2.2.2.1 (by omega) (by omega)]
        simp
end Go.Proofs.YtmmnkoeajdeldaaGreatDoor
