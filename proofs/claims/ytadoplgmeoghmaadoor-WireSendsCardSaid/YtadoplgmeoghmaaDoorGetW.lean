/- The walks of num.Get and the reference's Put, Get. -/
import Derived.Test.YtadoplgmeoghmaaDoorPutW
import Derived.Test.YtadoplgmeoghmaaDoorNumW2
namespace Go.Proofs.YtadoplgmeoghmaaDoor
open Go.RowKit
attribute [local go_sem] ba_get ba_cut conv_byte
attribute [local go_sem] cut_all List.drop_zero Nat.sub_zero ba_add

theorem or_byte (m k : Nat) (c : UInt8) (hk : k < 8) (hm : m < 256 ^ k) :
    bits .or .u64 (m : Int) (IntKind.u64.wrap ((c.toNat : Int) * 2 ^ (8 * k))) = ((m + c.toNat * 256 ^ k : Nat) : Int) ∧ m + c.toNat * 256 ^ k < 256 ^ (k + 1) := by
  have hc : c.toNat < 256 := c.toNat_lt
  have h1 : c.toNat * 256 ^ k ≤ 255 * 256 ^ k := Nat.mul_le_mul_right _ (by omega)
  have h2 : 256 ^ (k + 1) ≤ 256 ^ 8 := Nat.pow_le_pow_right (by omega) (by omega)
  have h3 : 256 ^ (k + 1) = 256 ^ k * 256 := Nat.pow_succ ..
  refine ⟨?_, by omega⟩
  have e : (c.toNat : Int) * 2 ^ (8 * k) = ((c.toNat * 256 ^ k : Nat) : Int) := by rw [Pl.pow8]; simp
  rw [e, IntWalk.u64_in _ ⟨by omega, by omega⟩]
  refine Pl.u64_join (8 * k) _ _ ?_ ?_ (by omega) (by omega)
  · rw [← Pl.pow8]; exact Nat.mul_mod_left _ _
  · rw [← Pl.pow8]; exact hm

set_option maxRecDepth 100000 in
set_option maxHeartbeats 1000000 in
theorem get_any (l : List UInt8) (hl : l.length ≤ 9223372036854775807) (w : World) :
    Calls Tryd.prog 24 #[.string ⟨l.toArray⟩] w (Ret (.int .u64 (Pl.getN (l.take 8))) w) := by
  obtain ⟨K, hK⟩ : ∃ K : Nat, min l.length 8 = K := ⟨_, rfl⟩
  have HK := Lib.hid hK; clear hK
  have hK8 : K ≤ 8 := by have := HK.out; omega
  have hKl : K ≤ l.length := by have := HK.out; omega
  have hKe : l.length ≤ K ∨ 8 ≤ K := by have := HK.out; omega
  have HT : Hid (l.take K = l.take 8) := by
    show l.take K = l.take 8
    rw [← HK.out]
    rcases Nat.le_total l.length 8 with h | h
    · rw [Nat.min_eq_left h, List.take_of_length_le (Nat.le_refl _), List.take_of_length_le h]
    · rw [Nat.min_eq_right h]
  by_cases h8 : l.length ≤ 8
  case pos => 
    replace hKe : l.length ≤ K := by omega
    go_enter Tryd.func24, Tryd.ntmps24
    go_wp2_with fail
    go_loop [3, 8] (fun t i => ∃ (j m : Nat), j ≤ K ∧ i = .int .i64 j ∧ t = .int .u64 m ∧ Hid (m = Pl.getN (l.take j))) (fun _ i => 8 - (intOf i).toNat)
    case atStart => exact ⟨0, 0, by omega, rfl, rfl, by simp [Hid, Pl.getN]⟩
    case round =>
      obtain ⟨j, m, hj, rfl, rfl, H⟩ := hrel
      by_cases hlt : j < K
      · have hjl : j < l.length := by omega
        obtain ⟨c, hc⟩ : ∃ c, l[j] = c := ⟨_, rfl⟩
        have hm : m < 256 ^ j := by
          have h1 := Pl.getN_lt (l.take j)
          rw [List.length_take, Nat.min_eq_left (by omega)] at h1
          rw [H.out]; exact h1
        have hor := or_byte m j c (by omega) hm
        have hst := Pl.getN_take l j hjl
        rw [hc, ← H.out] at hst
        have HH := Lib.hid (And.intro hst hor); clear hst hor hm
        have hcb := Pl.byte_lt c
        go_wp2_with fail
        go_round
        case rel =>
          obtain ⟨h1, h2, h3⟩ := HH.out
          exact ⟨j + 1, m + c.toNat * 256 ^ j, by omega, by go_num, by rw [h2], h1.symm⟩
        case measure => simp [intOf]; omega
      · go_wp2_with fail
        go_ret
        exact ⟨by rw [← HT.out, ← show j = K by omega, ← H.out]; rfl, rfl⟩
  case neg =>
    replace hKe : 8 ≤ K := by omega
    go_enter Tryd.func24, Tryd.ntmps24
    go_wp2_with fail
    go_loop [3, 8] (fun t i => ∃ (j m : Nat), j ≤ K ∧ i = .int .i64 j ∧ t = .int .u64 m ∧ Hid (m = Pl.getN (l.take j))) (fun _ i => 8 - (intOf i).toNat)
    case atStart => exact ⟨0, 0, by omega, rfl, rfl, by simp [Hid, Pl.getN]⟩
    case round =>
      obtain ⟨j, m, hj, rfl, rfl, H⟩ := hrel
      by_cases hlt : j < K
      · have hjl : j < l.length := by omega
        obtain ⟨c, hc⟩ : ∃ c, l[j] = c := ⟨_, rfl⟩
        have hm : m < 256 ^ j := by
          have h1 := Pl.getN_lt (l.take j)
          rw [List.length_take, Nat.min_eq_left (by omega)] at h1
          rw [H.out]; exact h1
        have hor := or_byte m j c (by omega) hm
        have hst := Pl.getN_take l j hjl
        rw [hc, ← H.out] at hst
        have HH := Lib.hid (And.intro hst hor); clear hst hor hm
        have hcb := Pl.byte_lt c
        go_wp2_with fail
        go_round
        case rel =>
          obtain ⟨h1, h2, h3⟩ := HH.out
          exact ⟨j + 1, m + c.toNat * 256 ^ j, by omega, by go_num, by rw [h2], h1.symm⟩
        case measure => simp [intOf]; omega
      · go_wp2_with fail
        go_ret
        exact ⟨by rw [← HT.out, ← show j = K by omega, ← H.out]; rfl, rfl⟩

end Go.Proofs.YtadoplgmeoghmaaDoor
