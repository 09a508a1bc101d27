/- The walks of the document's Form, plain, Enc, of instructions. -/
import Derived.Test.YtmmnkoeajdeldaaDoorIsaW1
import Derived.Test.YtmmnkoeajdeldaaDoorAsDc
namespace Go.Proofs.YtmmnkoeajdeldaaDoor
open Go.RowKit
set_option linter.unusedVariables false
set_option linter.unusedSimpArgs false
set_option maxRecDepth 100000 in
set_option maxHeartbeats 2000000 in
theorem rform_any (op : Nat) (w : World) (h : op < 256) : Calls Tryd.prog 17 #[.int .u8 (op : Int)] w (Ret (.int .i64 (Pl.formN op : Int)) w) := by
  obtain ⟨k, hk⟩ : ∃ k, Pl.formN op = k := ⟨_, rfl⟩
  have hc : (k = 0 ∧ op < 1) ∨ (k = 1 ∧ 1 ≤ op ∧ op ≤ 13) ∨ (k = 2 ∧ 14 ≤ op ∧ op ≤ 18) ∨ (k = 2 ∧ 25 ≤ op ∧ op ≤ 28) ∨ (k = 3 ∧ op = 19) ∨ (k = 3 ∧ op = 29) ∨ (k = 4 ∧ 20 ≤ op ∧ op ≤ 24) ∨ (k = 4 ∧ op = 30) ∨ (k = 5 ∧ op = 31) ∨ (k = 0 ∧ 31 < op) := by
    rw [← hk]; unfold Pl.formN; (repeat' split) <;> omega
  have h19 : op < 19 ∨ 19 < op → ((op : Int) == 19) = false := fun h => by rw [beq_eq_false_iff_ne]; omega
  have h29 : op < 29 ∨ 29 < op → ((op : Int) == 29) = false := fun h => by rw [beq_eq_false_iff_ne]; omega
  have h30 : op < 30 ∨ 30 < op → ((op : Int) == 30) = false := fun h => by rw [beq_eq_false_iff_ne]; omega
  have h31 : op < 31 ∨ 31 < op → ((op : Int) == 31) = false := fun h => by rw [beq_eq_false_iff_ne]; omega
  rw [hk]
  clear hk
  rcases hc with ⟨rfl, h1⟩ | ⟨rfl, h1, h2⟩ | ⟨rfl, h1, h2⟩ | ⟨rfl, h1, h2⟩ | ⟨rfl, rfl⟩ | ⟨rfl, rfl⟩ | ⟨rfl, h1, h2⟩ | ⟨rfl, rfl⟩ | ⟨rfl, rfl⟩ | ⟨rfl, h1⟩
  all_goals try replace h19 := h19 (by omega)
  all_goals try replace h29 := h29 (by omega)
  all_goals try replace h30 := h30 (by omega)
  all_goals try replace h31 := h31 (by omega)
  all_goals go_enter Tryd.func17, Tryd.ntmps17
  all_goals go_wp2_with fail
  all_goals go_ret
  all_goals exact ⟨rfl, rfl⟩
set_option maxRecDepth 100000 in
set_option maxHeartbeats 1000000 in
theorem rplain_any (op : Nat) (w : World) (h : op < 256) : Calls Tryd.prog 18 #[.int .u8 (op : Int)] w (Ret (.bool (Pl.usg op)) w) := by
  obtain ⟨k, hk⟩ : ∃ k, Pl.usg op = k := ⟨_, rfl⟩
  rw [hk]
  have HK := Lib.hid hk; clear hk
  go_enter Tryd.func18, Tryd.ntmps18
  go_wp2_with fail
  all_goals go_ret
  all_goals
    refine ⟨?_, rfl⟩
    show Ending.returned (Value.bool _) = Ending.returned (Value.bool _)
    congr 2
    rw [← HK.out]
    unfold Pl.usg
    rw [Bool.eq_iff_iff]
    simp
    omega
end Go.Proofs.YtmmnkoeajdeldaaDoor
