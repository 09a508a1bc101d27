/- The walks of num.Get and the reference's Put, Get. -/
import Derived.Test.YtommlolhpaeioaaDoorPutW
import Derived.Test.YtommlolhpaeioaaDoorNumW2
namespace Go.Proofs.YtommlolhpaeioaaDoor
open Go.RowKit
attribute [local go_sem] ba_get ba_cut conv_byte
attribute [local go_sem] cut_all List.drop_zero Nat.sub_zero ba_add

set_option maxRecDepth 100000 in
set_option maxHeartbeats 1000000 in
theorem rput_any (n : Nat) (hn : n < 18446744073709551616) (size : Int) (w : World) :
    Calls Tryd.prog 51 #[.int .u64 n, .int .i64 size] w (RetB (fun v _ => v = .string ⟨(Pl.putB n (putK size)).toArray⟩) w) := by
  have hk : putK size ≤ 8 := by unfold putK; omega
  have HK : Hid (putK size = min 8 size.toNat) := rfl
  go_enter Tryd.func51, Tryd.ntmps51
  go_wp2_with fail
  go_loopw [0, 5, 6] (fun t s i wr => ∃ (j m : Nat) (a : List UInt8), j ≤ 8 ∧ i = .int .i64 j ∧ t = .int .u64 m ∧ m < 18446744073709551616 ∧ s = .string ⟨a.toArray⟩ ∧ a.length ≤ 8 ∧ Below w.heap.size w wr ∧ Hid (j ≤ putK size ∧ m = n / 2 ^ (8 * j) ∧ a = Pl.putB n j)) (fun _ _ i _ => 8 - (intOf i).toNat)
  case atStart => exact ⟨0, n, [], by omega, rfl, rfl, hn, rfl, by simp, Below.refl _ _, ⟨by omega, by simp, rfl⟩⟩
  case round =>
    obtain ⟨j, m, a, hj, rfl, rfl, hm, rfl, ha, hbw, H⟩ := hrel
    by_cases hlt : (j : Int) < size
    · by_cases h8 : j < 8
      · have hcat : a.length + 1 ≤ 9223372036854775807 := by omega
        go_wp2_with fail
        go_roundw
        case rel =>
          obtain ⟨h1, h2, h3⟩ := H.out
          have h4 := HK.out
          refine ⟨j + 1, m / 256, a ++ [UInt8.ofNat (m % 256)], by omega, by go_num, by go_num, by omega, ?_, ?_, hbw.alloc hbw.size _, by omega, ?_, ?_⟩
          · simp
          · rw [h3, List.length_append, Pl.putB_len]; simp; omega
          · rw [h2, Nat.div_div_eq_div_mul, show 256 = 2 ^ 8 from rfl, ← Nat.pow_add, show 8 * (j + 1) = 8 * j + 8 by omega]
          · rw [Pl.putB_succ, h3, h2, Pl.ofNat_mod]
        case measure => simp [intOf]; omega
      · go_wp2_with fail
        go_ret
        obtain ⟨h1, h2, h3⟩ := H.out
        exact ⟨_, rfl, by rw [← show j = putK size by omega, ← h3]; rfl, hbw⟩
    · go_wp2_with fail
      go_ret
      obtain ⟨h1, h2, h3⟩ := H.out
      have h4 := HK.out
      exact ⟨_, rfl, by rw [← show j = putK size by omega, ← h3]; rfl, hbw⟩

theorem or_byte (m k : Nat) (c : UInt8) (hk : k < 8) (hm : m < 256 ^ k) :
    bits .or .u64 (m : Int) (IntKind.u64.wrap ((c.toNat : Int) * 2 ^ (8 * k))) = ((m + c.toNat * 256 ^ k : Nat) : Int) ∧ m + c.toNat * 256 ^ k < 256 ^ (k + 1) := by
  have hc : c.toNat < 256 := c.toNat_lt
  have h1 : c.toNat * 256 ^ k ≤ 255 * 256 ^ k := Nat.mul_le_mul_right _ (by omega)
  have h2 : 256 ^ (k + 1) ≤ 256 ^ 8 := Nat.pow_le_pow_right (by omega) (by omega)
  have h3 : 256 ^ (k + 1) = 256 ^ k * 256 := Nat.pow_succ ..
  refine ⟨?_, by omega⟩
  have e : (c.toNat : Int) * 2 ^ (8 * k) = ((c.toNat * 256 ^ k : Nat) : Int) := by rw [Pl.pow8]; simp
  rw [e, IntWalk.u64_in _ ⟨by omega, by omega⟩]
  refine Pl.u64_join (8 * k) _ _ ?_ ?_ (by omega) (by omega)
  · rw [← Pl.pow8]; exact Nat.mul_mod_left _ _
  · rw [← Pl.pow8]; exact hm

set_option maxRecDepth 100000 in
set_option maxHeartbeats 1000000 in
theorem get_any (l : List UInt8) (hl : l.length ≤ 9223372036854775807) (w : World) :
    Calls Tryd.prog 69 #[.string ⟨l.toArray⟩] w (Ret (.int .u64 (Pl.getN (l.take 8))) w) := by
  obtain ⟨K, hK⟩ : ∃ K : Nat, min l.length 8 = K := ⟨_, rfl⟩
  have HK := Lib.hid hK; clear hK
  have hK8 : K ≤ 8 := by have := HK.out; omega
  have hKl : K ≤ l.length := by have := HK.out; omega
  have hKe : l.length ≤ K ∨ 8 ≤ K := by have := HK.out; omega
  have HT : Hid (l.take K = l.take 8) := by
    show l.take K = l.take 8
    rw [← HK.out]
    rcases Nat.le_total l.length 8 with h | h
    · rw [Nat.min_eq_left h, List.take_of_length_le (Nat.le_refl _), List.take_of_length_le h]
    · rw [Nat.min_eq_right h]
  by_cases h8 : l.length ≤ 8
  case pos => 
    replace hKe : l.length ≤ K := by omega
    go_enter Tryd.func69, Tryd.ntmps69
    go_wp2_with fail
    go_loop [3, 8] (fun t i => ∃ (j m : Nat), j ≤ K ∧ i = .int .i64 j ∧ t = .int .u64 m ∧ Hid (m = Pl.getN (l.take j))) (fun _ i => 8 - (intOf i).toNat)
    case atStart => exact ⟨0, 0, by omega, rfl, rfl, by simp [Hid, Pl.getN]⟩
    case round =>
      obtain ⟨j, m, hj, rfl, rfl, H⟩ := hrel
      by_cases hlt : j < K
      · have hjl : j < l.length := by omega
        obtain ⟨c, hc⟩ : ∃ c, l[j] = c := ⟨_, rfl⟩
        have hm : m < 256 ^ j := by
          have h1 := Pl.getN_lt (l.take j)
          rw [List.length_take, Nat.min_eq_left (by omega)] at h1
          rw [H.out]; exact h1
        have hor := or_byte m j c (by omega) hm
        have hst := Pl.getN_take l j hjl
        rw [hc, ← H.out] at hst
        have HH := Lib.hid (And.intro hst hor); clear hst hor hm
        have hcb := Pl.byte_lt c
        go_wp2_with fail
        go_round
        case rel =>
          obtain ⟨h1, h2, h3⟩ := HH.out
          exact ⟨j + 1, m + c.toNat * 256 ^ j, by omega, by go_num, by rw [h2], h1.symm⟩
        case measure => simp [intOf]; omega
      · go_wp2_with fail
        go_ret
        exact ⟨by rw [← HT.out, ← show j = K by omega, ← H.out]; rfl, rfl⟩
  case neg =>
    replace hKe : 8 ≤ K := by omega
    go_enter Tryd.func69, Tryd.ntmps69
    go_wp2_with fail
    go_loop [3, 8] (fun t i => ∃ (j m : Nat), j ≤ K ∧ i = .int .i64 j ∧ t = .int .u64 m ∧ Hid (m = Pl.getN (l.take j))) (fun _ i => 8 - (intOf i).toNat)
    case atStart => exact ⟨0, 0, by omega, rfl, rfl, by simp [Hid, Pl.getN]⟩
    case round =>
      obtain ⟨j, m, hj, rfl, rfl, H⟩ := hrel
      by_cases hlt : j < K
      · have hjl : j < l.length := by omega
        obtain ⟨c, hc⟩ : ∃ c, l[j] = c := ⟨_, rfl⟩
        have hm : m < 256 ^ j := by
          have h1 := Pl.getN_lt (l.take j)
          rw [List.length_take, Nat.min_eq_left (by omega)] at h1
          rw [H.out]; exact h1
        have hor := or_byte m j c (by omega) hm
        have hst := Pl.getN_take l j hjl
        rw [hc, ← H.out] at hst
        have HH := Lib.hid (And.intro hst hor); clear hst hor hm
        have hcb := Pl.byte_lt c
        go_wp2_with fail
        go_round
        case rel =>
          obtain ⟨h1, h2, h3⟩ := HH.out
          exact ⟨j + 1, m + c.toNat * 256 ^ j, by omega, by go_num, by rw [h2], h1.symm⟩
        case measure => simp [intOf]; omega
      · go_wp2_with fail
        go_ret
        exact ⟨by rw [← HT.out, ← show j = K by omega, ← H.out]; rfl, rfl⟩

set_option maxRecDepth 100000 in
set_option maxHeartbeats 1000000 in
theorem rget_any (l : List UInt8) (hl : l.length ≤ 9223372036854775807) (w : World) :
    Calls Tryd.prog 87 #[.string ⟨l.toArray⟩] w (Ret (.int .u64 (Pl.getN (l.take 8))) w) := by
  go_enter Tryd.func87, Tryd.ntmps87
  go_wp2_with fail
  go_loop [3, 4] (fun t i => ∃ (j m : Nat), j ≤ l.length ∧ i = .int .i64 ((j : Int) - 1) ∧ t = .int .u64 m ∧ Hid (m = Pl.getN ((l.take 8).drop j))) (fun _ i => (intOf i + 1).toNat)
  case atStart => exact ⟨l.length, 0, by omega, rfl, rfl, by
    show 0 = _
    rw [List.drop_eq_nil_of_le (by simp; omega)]; rfl⟩
  case round =>
    obtain ⟨j, m, hj, rfl, rfl, H⟩ := hrel
    cases j with
    | zero =>
      go_wp2_with fail
      go_ret
      exact ⟨by rw [H.out]; rfl, rfl⟩
    | succ j =>
      have hjl : j < l.length := by omega
      by_cases h8 : j < 8
      · have hj8 : j < (l.take 8).length := by simp; omega
        have hst := Pl.getN_drop (l.take 8) j hj8
        have hlt := Pl.getN_lt8 ((l.take 8).drop j) (by simp; omega)
        obtain ⟨c, hc⟩ : ∃ c, l[j] = c := ⟨_, rfl⟩
        have hc' : (l.take 8)[j] = c := by rw [List.getElem_take]; exact hc
        rw [hst, hc', ← H.out] at hlt
        rw [hc', ← H.out] at hst
        have HH := Lib.hid hst; clear hst hc' hj8
        have hcb := Pl.byte_lt c
        go_wp2_with fail
        go_round
        case rel => exact ⟨j, m * 256 + c.toNat, by omega, by go_num, by go_num, by rw [HH.out, Nat.add_comm, Nat.mul_comm]; rfl⟩
        case measure => simp [intOf]
      · go_wp2_with fail
        go_round
        case rel => exact ⟨j, m, by omega, by go_num, rfl, by
          show m = _
          rw [H.out, List.drop_eq_nil_of_le (by simp; omega), List.drop_eq_nil_of_le (by simp; omega)]⟩
        case measure => simp [intOf]
end Go.Proofs.YtommlolhpaeioaaDoor
