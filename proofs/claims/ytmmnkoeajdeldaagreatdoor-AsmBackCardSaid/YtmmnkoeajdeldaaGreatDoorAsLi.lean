/- asm.listed. -/
import Derived.Test.YtmmnkoeajdeldaaGreatDoorAsQt
import Derived.Test.YtmmnkoeajdeldaaGreatDoorAsS
namespace Go.Proofs.YtmmnkoeajdeldaaGreatDoor
open Go.RowKit
set_option linter.unusedVariables false
set_option linter.unusedSimpArgs false
attribute [local go_sem] ba_get ba_cut ba_add
/-- What is known of a program that came in. -/
structure XeOk (X : Pl.Exe) : Prop where
  t : X.text.length ≤ 140737488355328
  d : X.data.length ≤ 140737488355328
  r0 : -9223372036854775808 ≤ X.room
  r1 : X.room ≤ 9223372036854775807
  e : X.entry < 4294967296
  w : ∀ y ∈ X.text, y < 4294967296
set_option maxRecDepth 100000 in
set_option maxHeartbeats 2000000 in
theorem listed_any (A : Option Addr) (c : Nat) (X : Pl.Exe) (w : World) (h : XeOk X) : Calls Tryz.prog 41 #[xeV A c X, .int .i64 ((Pl.padN X.data.length : Nat) : Int)] w (RetB (fun v _ => v = .bool (Pl.listB X)) w) := by
  obtain ⟨R, hR⟩ : ∃ R, Pl.listB X = R := ⟨_, rfl⟩
  have hB : R = decide (0 ≤ X.room ∧ X.room ≤ 65536 ∧ X.text.length ≤ 150 ∧ X.data.length ≤ 8000 ∧ (0 < X.room → (Pl.padN X.data.length : Int) ≤ X.room) ∧ (X.entry = 0 ∨ X.entry % 4 = 0 ∧ X.entry / 4 < X.text.length)) := by rw [← hR]; rfl
  rw [hR]
  clear hR
  obtain ⟨t, d, ro, en⟩ := X
  obtain ⟨h1, h2, h3, h4, h5, -⟩ := h
  unfold xeV
  dsimp only at h1 h2 h3 h4 h5 hB ⊢
  obtain ⟨n, hn⟩ : ∃ n, t.length = n := ⟨_, rfl⟩
  obtain ⟨p, hp⟩ : ∃ p, Pl.padN d.length = p := ⟨_, rfl⟩
  rw [hn] at h1 hB ⊢
  rw [hp] at hB ⊢
  have hp3 : p ≤ 3 := by rw [← hp]; unfold Pl.padN Pl.up; omega
  obtain ⟨ds, hds⟩ : ∃ ds, d.length = ds := ⟨_, rfl⟩
  rw [hds] at h2 hB
  have hfin : ∀ (b : Bool) (wx : World), R = b → Below w.heap.size w wx → ∃ v, Ending.returned (Value.bool b) = .returned v ∧ v = .bool R ∧ Below w.heap.size w wx := fun b wx e hb => ⟨_, rfl, by rw [e], hb⟩
  clear hn hp
  go_enter Tryz.func41, Tryz.ntmps41
  by_cases c1 : ro < 0
  · have hR : R = false := by rw [hB]; exact decide_eq_false (by omega)
    clear hB
    go_wp2_with fail
    go_ret
    exact ⟨_, rfl, (by first | rfl | (rw [hR]; rfl)), (Below.refl _ _).alloc (Nat.le_refl _) _⟩
  by_cases c2 : 65536 < ro
  · have hR : R = false := by rw [hB]; exact decide_eq_false (by omega)
    clear hB
    go_wp2_with fail
    go_ret
    exact ⟨_, rfl, (by first | rfl | (rw [hR]; rfl)), (Below.refl _ _).alloc (Nat.le_refl _) _⟩
  by_cases c3 : 150 < n
  · have hR : R = false := by rw [hB]; exact decide_eq_false (by omega)
    clear hB
    go_wp2_with fail
    go_ret
    exact ⟨_, rfl, (by first | rfl | (rw [hR]; rfl)), (Below.refl _ _).alloc (Nat.le_refl _) _⟩
  by_cases c4 : 8000 < ds
  · have hR : R = false := by rw [hB]; exact decide_eq_false (by omega)
    clear hB
    subst hds
    go_wp2_with fail
    go_ret
    exact ⟨_, rfl, (by first | rfl | (rw [hR]; rfl)), (Below.refl _ _).alloc (Nat.le_refl _) _⟩
  subst hds
  by_cases c5 : 0 < ro ∧ ro < (p : Int)
  · have hR : R = false := by rw [hB]; exact decide_eq_false (by omega)
    obtain ⟨c6, c7⟩ := c5
    clear hB
    go_wp2_with fail
    go_ret
    exact ⟨_, rfl, (by first | rfl | (rw [hR]; rfl)), (Below.refl _ _).alloc (Nat.le_refl _) _⟩
  by_cases c8 : ro = 0
  · subst c8
    have c8 : True := trivial
    clear c1 c2
    by_cases c9 : en = 0
    · have hR : R = true := by rw [hB]; exact decide_eq_true (by omega)
      subst c9
      clear hB c5 c8
      go_wp2_with fail
      go_ret
      exact ⟨_, rfl, (by first | rfl | (rw [hR]; rfl)), (Below.refl _ _).alloc (Nat.le_refl _) _⟩
    have c10 : ((en : Int) == 0) = false := by rw [beq_eq_false_iff_ne]; omega
    by_cases c11 : en % 4 = 0
    rotate_left
    · have hR : R = false := by rw [hB]; exact decide_eq_false (by omega)
      have c12 : ((en : Int) % 4 == 0) = false := by rw [beq_eq_false_iff_ne]; omega
      clear hB c5 c8
      go_wp2_with fail
      go_ret
      exact ⟨_, rfl, (by first | rfl | (rw [hR]; rfl)), (Below.refl _ _).alloc (Nat.le_refl _) _⟩
    have c12 : ((en : Int) % 4 == 0) = true := by rw [beq_iff_eq]; omega
    by_cases c13 : en / 4 < n
    · have hR : R = true := by rw [hB]; exact decide_eq_true (by omega)
      have c14 : decide ((en : Int) / 4 < (n : Int)) = true := decide_eq_true (by omega)
      clear hB c5 c8
      go_wp2_with fail
      go_ret
      refine ⟨_, rfl, ?_, (Below.refl _ _).alloc (Nat.le_refl _) _⟩
      first | rfl | (rw [hR, ← c14]; rfl) | (show Value.bool (decide ((en : Int) / 4 < (n : Int))) = _; rw [c14]; first | rfl | rw [hR])
    · have hR : R = false := by rw [hB]; exact decide_eq_false (by omega)
      have c14 : decide ((en : Int) / 4 < (n : Int)) = false := decide_eq_false (by omega)
      clear hB c5 c8
      go_wp2_with fail
      go_ret
      refine ⟨_, rfl, ?_, (Below.refl _ _).alloc (Nat.le_refl _) _⟩
      first | rfl | (rw [hR, ← c14]; rfl) | (show Value.bool (decide ((en : Int) / 4 < (n : Int))) = _; rw [c14]; first | rfl | rw [hR])
  have c6 : 0 < ro := by omega
  have c7 : ¬ ro < (p : Int) := by omega
  by_cases c9 : en = 0
  · have hR : R = true := by rw [hB]; exact decide_eq_true (by omega)
    subst c9
    clear hB c5 c8
    go_wp2_with fail
    go_ret
    exact ⟨_, rfl, (by first | rfl | (rw [hR]; rfl)), (Below.refl _ _).alloc (Nat.le_refl _) _⟩
  have c10 : ((en : Int) == 0) = false := by rw [beq_eq_false_iff_ne]; omega
  by_cases c11 : en % 4 = 0
  rotate_left
  · have hR : R = false := by rw [hB]; exact decide_eq_false (by omega)
    have c12 : ((en : Int) % 4 == 0) = false := by rw [beq_eq_false_iff_ne]; omega
    clear hB c5 c8
    go_wp2_with fail
    go_ret
    exact ⟨_, rfl, (by first | rfl | (rw [hR]; rfl)), (Below.refl _ _).alloc (Nat.le_refl _) _⟩
  have c12 : ((en : Int) % 4 == 0) = true := by rw [beq_iff_eq]; omega
  by_cases c13 : en / 4 < n
  · have hR : R = true := by rw [hB]; exact decide_eq_true (by omega)
    have c14 : decide ((en : Int) / 4 < (n : Int)) = true := decide_eq_true (by omega)
    clear hB c5 c8
    go_wp2_with fail
    go_ret
    refine ⟨_, rfl, ?_, (Below.refl _ _).alloc (Nat.le_refl _) _⟩
    first | rfl | (rw [hR, ← c14]; rfl) | (show Value.bool (decide ((en : Int) / 4 < (n : Int))) = _; rw [c14]; first | rfl | rw [hR])
  · have hR : R = false := by rw [hB]; exact decide_eq_false (by omega)
    have c14 : decide ((en : Int) / 4 < (n : Int)) = false := decide_eq_false (by omega)
    clear hB c5 c8
    go_wp2_with fail
    go_ret
    refine ⟨_, rfl, ?_, (Below.refl _ _).alloc (Nat.le_refl _) _⟩
    first | rfl | (rw [hR, ← c14]; rfl) | (show Value.bool (decide ((en : Int) / 4 < (n : Int))) = _; rw [c14]; first | rfl | rw [hR])
end Go.Proofs.YtmmnkoeajdeldaaGreatDoor
