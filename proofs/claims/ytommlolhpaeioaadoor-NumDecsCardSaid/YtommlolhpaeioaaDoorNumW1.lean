/- The walk of num.length: what the Go text returns is Pl.lenOf, and the world is as it was. Condition: the text is no longer than a Go string may be. -/
import Derived.Test.YtommlolhpaeioaaDoorBase
import Derived.Test.YtommlolhpaeioaaDoorNumPlain
namespace Go.Proofs.YtommlolhpaeioaaDoor
open Go.RowKit
attribute [local go_sem] ba_get

def len3 (r : Nat × Nat × Nat) : Value := .tuple #[.int .i64 r.1, .int .i64 r.2.1, .int .i64 r.2.2]
theorem len3_mk {r : Nat × Nat × Nat} {a b c : Nat} (h : r = (a, b, c)) : len3 r = .tuple #[.int .i64 a, .int .i64 b, .int .i64 c] := by subst h; rfl

set_option maxRecDepth 100000 in
set_option maxHeartbeats 400000 in
theorem length_any (l : List UInt8) (w : World) (hs : l.length ≤ 9223372036854775807) :
    Calls Tryd.prog 74 #[.string ⟨l.toArray⟩] w (Ret (len3 (Pl.lenOf l 0 0)) w) := by
  obtain ⟨r, hr⟩ : ∃ r, Pl.lenOf l 0 0 = r := ⟨_, rfl⟩
  rw [hr]
  have Hr := Lib.hid hr
  clear hr
  go_enter Tryd.func74, Tryd.ntmps74
  go_wp2
  go_loop [5, 10] (fun n i => ∃ (k m : Nat), k ≤ l.length ∧ i = .int .i64 k ∧ n = .int .i64 m ∧ k < 4 ∧ Hid (m < 128 ^ k ∧ Pl.lenOf (l.drop k) k m = r)) (fun _ i => l.length - (intOf i).toNat)
  case atStart => exact ⟨0, 0, Nat.zero_le _, rfl, rfl, by omega, ⟨by omega, Hr⟩⟩
  case round =>
    obtain ⟨k, m, hk, rfl, rfl, hk4, H⟩ := hrel
    by_cases hlt : k < l.length
    · obtain ⟨c, hc⟩ : ∃ c, l[k] = c := ⟨_, rfl⟩
      have hstep := Pl.lenOf_step l k m hlt
      rw [hc, H.out.2] at hstep
      have ho := Pl.or_len m k c hk4 H.out.1
      have hnx := Pl.or_len_lt m k c.toNat H.out.1
      have HS := Lib.hid (And.intro hstep (And.intro ho hnx)); clear hstep ho hnx H
      by_cases h1 : 128 ≤ (c.toNat : Int)
      · have h1' : ¬ (c.toNat : Int) < 128 := by omega
        by_cases h3 : k = 3
        · subst h3
          go_wp2
          go_ret3
          obtain ⟨hstep, -, -⟩ := HS.out
          rw [if_pos (by simp; omega)] at hstep
          exact ⟨by rw [len3_mk hstep]; rfl, rfl⟩
        · have h3' : ((k : Int) == 3) = false := by simp; omega
          go_wp2
          go_round
          case rel =>
            obtain ⟨hstep, ho, hnx⟩ := HS.out
            rw [if_neg (by omega), if_pos (by omega)] at hstep
            exact ⟨k + 1, _, by omega, by go_num, by rw [ho], by omega, ⟨hnx, hstep.symm⟩⟩
          case measure => simp [intOf]; omega
      · have h1' : (c.toNat : Int) < 128 := by omega
        obtain rfl | rfl | rfl | rfl : k = 0 ∨ k = 1 ∨ k = 2 ∨ k = 3 := by omega
        all_goals by_cases h0 : c.toNat = 0
        all_goals go_wp2
        all_goals go_ret3
        all_goals obtain ⟨hstep, ho, -⟩ := HS.out
        all_goals rw [if_neg (by omega), if_neg (by omega)] at hstep
        all_goals first | rw [if_neg (by omega)] at hstep | rw [if_pos (by omega)] at hstep
        all_goals refine ⟨?_, rfl⟩
        all_goals rw [len3_mk hstep]
        all_goals first | rfl | (simp [h0] at ho ⊢; done) | (simp [h0] at ho ⊢; exact ho) | (simp [h0] at ho ⊢; omega)
    · go_wp2
      go_ret3
      have := H.out.2
      rw [Pl.lenOf_end _ _ _ (by omega)] at this
      subst this
      exact ⟨rfl, rfl⟩

theorem length_at (l : List UInt8) (n u e : Nat) (h : Pl.lenOf l 0 0 = (n, u, e)) (w : World) (hs : l.length ≤ 9223372036854775807) :
    Calls Tryd.prog 74 #[.string ⟨l.toArray⟩] w (Ret (.tuple #[.int .i64 n, .int .i64 u, .int .i64 e]) w) := by
  have := length_any l w hs
  rw [h] at this; exact this
end Go.Proofs.YtommlolhpaeioaaDoor
