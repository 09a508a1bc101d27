/- The document's Dec, of the assembler's chapter. -/
import Derived.Test.YtmmnkoeajdeldaaGreatDoorBase
import Derived.Test.YtmmnkoeajdeldaaGreatDoorNumPlain
namespace Go.Proofs.YtmmnkoeajdeldaaGreatDoor
open Go.RowKit
set_option linter.unusedVariables false
set_option linter.unusedSimpArgs false
attribute [local go_sem] ba_get ba_cut ba_add
theorem sign_one : ∀ k, k < 10 → (([48, 49, 50, 51, 52, 53, 54, 55, 56, 57] : List UInt8).drop k).take 1 = [UInt8.ofNat (48 + k)] := by decide
set_option maxRecDepth 100000 in
set_option maxHeartbeats 2000000 in
theorem rdec11_ind : ∀ (f n : Nat) (w : World), n ≤ 1000000000000 → n ≤ f → Calls Tryz.prog 14 #[.int .i64 (n : Int)] w (Ret (.string ⟨(Lib.decDigits n).toArray⟩) w) := by
  intro f
  induction f with
  | zero =>
    intro n w hn hf
    obtain rfl : n = 0 := by omega
    go_enter Tryz.func14, Tryz.ntmps14
    go_wp2_with fail
    go_ret
    exact ⟨by rw [Pl.dd_small (by omega)]; rfl, rfl⟩
  | succ f ih =>
    intro n w hn hf
    by_cases h : n < 10
    · have hs := sign_one n h
      have hcut : (⟨#[48, 49, 50, 51, 52, 53, 54, 55, 56, 57]⟩ : ByteArray).extract n (n + 1) = ⟨#[UInt8.ofNat (48 + n)]⟩ := by
        have e := ba_cut [48, 49, 50, 51, 52, 53, 54, 55, 56, 57] n (n + 1)
        rw [Nat.add_sub_cancel_left, hs] at e
        exact e
      have hsl : ∀ W', (Instr.slice 9 (.string ⟨#[48, 49, 50, 51, 52, 53, 54, 55, 56, 57]⟩) (some (.int .i64 (n : Int))) (some (.int .i64 ((n : Int) + 1))) none).run Tryz.prog W' = .ok (.string ⟨#[UInt8.ofNat (48 + n)]⟩) W' := by
        intro W'
        rw [← hcut]
        have hz : (⟨#[48, 49, 50, 51, 52, 53, 54, 55, 56, 57]⟩ : ByteArray).size = 10 := rfl
        simp [go_sem, hz]
        rw [if_pos (by omega), if_pos (by omega)]
      rw [Pl.dd_small h]
      obtain ⟨y, hy⟩ : ∃ y, UInt8.ofNat (48 + n) = y := ⟨_, rfl⟩
      rw [hy] at hsl ⊢
      clear hcut hs hy
      go_enter Tryz.func14, Tryz.ntmps14
      go_wp2_with fail
      go_ret
      exact ⟨rfl, rfl⟩
    · have h1 := fun W => ih (n / 10) W (by omega) (by omega)
      have h2 := fun W => ih (n % 10) W (by omega) (by omega)
      rw [show ((n / 10 : Nat) : Int) = (n : Int) / 10 by omega] at h1
      rw [show ((n % 10 : Nat) : Int) = (n : Int) % 10 by omega] at h2
      rw [Pl.dd_big h]
      rw [Pl.dd_small (show n % 10 < 10 by omega)] at h2
      have hl := Pl.dd_len 39 (n / 10) (by have : (1000000000000 : Nat) < 10 ^ 40 := (by decide); omega)
      obtain ⟨y, hy⟩ : ∃ y, UInt8.ofNat (48 + n % 10) = y := ⟨_, rfl⟩
      rw [hy] at h2 ⊢
      clear hy
      obtain ⟨X, hX⟩ : ∃ X, Lib.decDigits (n / 10) = X := ⟨_, rfl⟩
      rw [hX] at h1 hl ⊢
      have HI := Lib.hid (And.intro h1 h2)
      clear h1 h2 ih hX
      go_enter Tryz.func14, Tryz.ntmps14
      go_wp2_with fail
      (with_reducible refine (HI.out.1 _).mono ?_)
      rintro x w1 ⟨rfl, rfl⟩
      go_wp2_with fail
      (with_reducible refine (HI.out.2 _).mono ?_)
      rintro x w1 ⟨rfl, rfl⟩
      go_wp2_with fail
      go_ret
      exact ⟨rfl, rfl⟩
theorem rdec11_any (n : Nat) (hn : n ≤ 1000000000000) (w : World) : Calls Tryz.prog 14 #[.int .i64 (n : Int)] w (Ret (.string ⟨(Lib.itoa (n : Int)).toArray⟩) w) := by
  rw [Pl.itoa_pos (by omega)]
  exact rdec11_ind n n w hn (Nat.le_refl _)
end Go.Proofs.YtmmnkoeajdeldaaGreatDoor
