/- The walks of manifest's machineName and within, the document's Machine; a sign's number. -/
import Derived.Test.YtadoplgmeoghmaaDoorMfMem
import Derived.Test.YtadoplgmeoghmaaDoorNumW2
namespace Go.Proofs.YtadoplgmeoghmaaDoor
open Go.RowKit
set_option linter.unusedVariables false
set_option linter.unusedSimpArgs false
attribute [local go_sem] ba_get

def MTo (s : List UInt8) (k : Nat) : Prop := ∀ j (h : j < s.length), j < k → Pl.mchB s[j] = true
theorem mto_step {s : List UInt8} {k : Nat} (h : MTo s k) (hk : k < s.length) (hc : Pl.mchB s[k] = true) : MTo s (k + 1) := by
  intro j hj hjk
  rcases Nat.lt_or_ge j k with h1 | h1
  · exact h j hj h1
  · obtain rfl : j = k := by omega
    exact hc
theorem mto_all {s : List UInt8} (h : MTo s s.length) : s.all Pl.mchB = true := by
  rw [List.all_eq_true]
  intro c hc
  obtain ⟨k, hk, rfl⟩ := List.getElem_of_mem hc
  exact h k hk hk
theorem mto_bad {s : List UInt8} {k : Nat} (hk : k < s.length) (h : Pl.mchB s[k] = false) : Pl.machine s = false := by
  unfold Pl.machine
  rw [Bool.and_eq_false_iff]
  right
  rw [List.all_eq_false]
  exact ⟨s[k], List.getElem_mem hk, by rw [h]; simp⟩
theorem machine_len {s : List UInt8} (h : ¬ (1 ≤ s.length ∧ s.length ≤ 24)) : Pl.machine s = false := by unfold Pl.machine; rw [decide_eq_false h]; rfl
theorem machine_yes {s : List UInt8} (h : 1 ≤ s.length ∧ s.length ≤ 24) (ha : s.all Pl.mchB = true) : Pl.machine s = true := by unfold Pl.machine; rw [decide_eq_true h, ha]; rfl
set_option maxRecDepth 100000 in
set_option maxHeartbeats 2000000 in
theorem mname_any (s : List UInt8) (w : World) (hs : s.length ≤ 140737488355328) : Calls Tryd.prog 56 #[.string ⟨s.toArray⟩] w (Ret (.bool (Pl.machine s)) w) := by
  obtain ⟨Q, hQ⟩ : ∃ Q, Pl.machine s = Q := ⟨_, rfl⟩
  rw [hQ]
  have HQ := Lib.hid hQ; clear hQ
  by_cases h0 : 1 ≤ s.length ∧ s.length ≤ 24
  · have l1 : decide (((s.length : Nat) : Int) < 1) = false := decide_eq_false (by omega)
    have l2 : decide ((24 : Int) < ((s.length : Nat) : Int)) = false := decide_eq_false (by omega)
    go_enter Tryd.func56, Tryd.ntmps56
    go_wp2_with fail
    clear l1 l2
    go_loop [3] (fun i => ∃ (k : Nat), k ≤ s.length ∧ i = .int .i64 (k : Nat) ∧ Hid (MTo s k)) (fun i => s.length - (intOf i).toNat)
    case atStart => exact ⟨0, by omega, rfl, (fun j h hj => absurd hj (by omega) : MTo s 0)⟩
    case round =>
      obtain ⟨k, hk, rfl, HX⟩ := hrel
      by_cases hkl : k < s.length
      · obtain ⟨c, hc⟩ : ∃ c, s[k] = c := ⟨_, rfl⟩
        have hcb := c.toNat_lt
        have HC := Lib.hid hc
        go_wp2_with fail
        all_goals first
          | (go_round
             case rel => exact ⟨k + 1, by omega, by go_num, mto_step HX.out hkl (by rw [HC.out]; exact decide_eq_true (by (try simp only [Bool.not_eq_true', Bool.not_eq_false', decide_eq_true_eq, decide_eq_false_iff_not, beq_iff_eq, beq_eq_false_iff_ne, ne_eq, Bool.or_eq_true, Bool.and_eq_true, Bool.or_eq_false_iff, Bool.and_eq_false_iff, bne_iff_ne, Bool.not_eq_true, bne_eq_false_iff_eq] at *); omega))⟩
             case measure => simp [intOf]; omega)
          | (go_ret
             exact ⟨by rw [← HQ.out, mto_bad hkl (by rw [HC.out]; exact decide_eq_false (by (try simp only [Bool.not_eq_true', Bool.not_eq_false', decide_eq_true_eq, decide_eq_false_iff_not, beq_iff_eq, beq_eq_false_iff_ne, ne_eq, Bool.or_eq_true, Bool.and_eq_true, Bool.or_eq_false_iff, Bool.and_eq_false_iff, bne_iff_ne, Bool.not_eq_true, bne_eq_false_iff_eq] at *); omega))]; rfl, rfl⟩)
      · obtain rfl : k = s.length := by omega
        have hq : Q = true := by rw [← HQ.out]; exact machine_yes h0 (mto_all HX.out)
        have HQ2 := Lib.hid hq; clear hq
        go_wp2_with fail
        go_ret
        exact ⟨by rw [HQ2.out]; rfl, rfl⟩
  · have hq : Q = false := by rw [← HQ.out]; exact machine_len h0
    have HQ2 := Lib.hid hq; clear hq
    by_cases h1 : s.length < 1
    · have l1 : decide (((s.length : Nat) : Int) < 1) = true := decide_eq_true (by omega)
      go_enter Tryd.func56, Tryd.ntmps56
      go_wp2_with fail
      go_ret
      exact ⟨by rw [HQ2.out]; rfl, rfl⟩
    · have l1 : decide (((s.length : Nat) : Int) < 1) = false := decide_eq_false (by omega)
      have l2 : decide ((24 : Int) < ((s.length : Nat) : Int)) = true := decide_eq_true (by omega)
      go_enter Tryd.func56, Tryd.ntmps56
      go_wp2_with fail
      go_ret
      exact ⟨by rw [HQ2.out]; rfl, rfl⟩
theorem within_int (n a b : Int) (w : World) : Calls Tryd.prog 57 #[.int .i64 n, .int .i64 a, .int .i64 b] w (Ret (.bool (decide (a ≤ n ∧ n ≤ b))) w) := by
  by_cases h1 : a ≤ n
  · have d1 : decide (a ≤ n) = true := decide_eq_true h1
    obtain ⟨q, hq⟩ : ∃ q, decide (n ≤ b) = q := ⟨_, rfl⟩
    have hr : decide (a ≤ n ∧ n ≤ b) = q := by rw [← hq, Bool.eq_iff_iff]; simp [h1]
    rw [hr]
    clear hr
    go_enter Tryd.func57, Tryd.ntmps57
    go_wp2_with fail
    go_ret
    exact ⟨rfl, rfl⟩
  · have d1 : decide (a ≤ n) = false := decide_eq_false h1
    have hr : decide (a ≤ n ∧ n ≤ b) = false := decide_eq_false (fun h => h1 h.1)
    rw [hr]
    go_enter Tryd.func57, Tryd.ntmps57
    go_wp2_with fail
    go_ret
    exact ⟨rfl, rfl⟩
theorem within_int64 (n a b : Int) (w : World) : Calls Tryd.prog 58 #[.int .i64 n, .int .i64 a, .int .i64 b] w (Ret (.bool (decide (a ≤ n ∧ n ≤ b))) w) := by
  by_cases h1 : a ≤ n
  · have d1 : decide (a ≤ n) = true := decide_eq_true h1
    obtain ⟨q, hq⟩ : ∃ q, decide (n ≤ b) = q := ⟨_, rfl⟩
    have hr : decide (a ≤ n ∧ n ≤ b) = q := by rw [← hq, Bool.eq_iff_iff]; simp [h1]
    rw [hr]
    clear hr
    go_enter Tryd.func58, Tryd.ntmps58
    go_wp2_with fail
    go_ret
    exact ⟨rfl, rfl⟩
  · have d1 : decide (a ≤ n) = false := decide_eq_false h1
    have hr : decide (a ≤ n ∧ n ≤ b) = false := decide_eq_false (fun h => h1 h.1)
    rw [hr]
    go_enter Tryd.func58, Tryd.ntmps58
    go_wp2_with fail
    go_ret
    exact ⟨rfl, rfl⟩
end Go.Proofs.YtadoplgmeoghmaaDoor
