/- The walk of strings.HasPrefix. -/
import Derived.Test.YtnapokalopcdkaaShW6
import Derived.Test.YtnapokalopcdkaaShOps3
namespace Go.Proofs.Ytnapokalopcdkaa
open Go.RowKit
set_option linter.unusedVariables false
set_option linter.unusedSimpArgs false
attribute [local go_sem] ba_get ba_add ba_cut List.drop_zero Nat.sub_zero


set_option maxRecDepth 100000 in
theorem hasPreL_any (s p : List UInt8) (w : World) : Calls Try.prog 44 #[.string ⟨s.toArray⟩, .string ⟨p.toArray⟩] w (Ret (.bool (Pl.hasPre s p)) w) := by
  obtain ⟨q, hq⟩ : ∃ q, Pl.hasPre s p = q := ⟨_, rfl⟩
  rw [hq]
  unfold Pl.hasPre at hq
  by_cases hl : p.length ≤ s.length
  · have hq' : (s.take p.length == p) = q := by rw [← hq]; simp [hl]
    have HQ := Lib.hid hq'; clear hq hq'
    go_enter Try.func44, Try.ntmps44
    go_wp2_with fail
    go_ret
    exact ⟨by rw [← HQ.out]; rfl, rfl⟩
  · have hq' : q = false := by rw [← hq]; simp [hl]
    subst hq'
    clear hq
    have hl' : ¬ (p.length : Int) ≤ (s.length : Int) := by omega
    go_enter Try.func44, Try.ntmps44
    go_wp2_with fail
    go_ret
    exact ⟨rfl, rfl⟩
set_option maxRecDepth 100000 in
theorem hasPre_any (s p : List UInt8) (w : World) : Calls Try.prog 30 #[.string ⟨s.toArray⟩, .string ⟨p.toArray⟩] w (Ret (.bool (Pl.hasPre s p)) w) := by
  go_enter Try.func30, Try.ntmps30
  go_wp2_with fail
  (with_reducible refine (hasPreL_any _ _ _).mono ?_)
  rintro e w1 ⟨rfl, rfl⟩
  go_wp2_with fail
  go_ret
  exact ⟨rfl, rfl⟩
end Go.Proofs.Ytnapokalopcdkaa
