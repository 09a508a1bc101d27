/- The walks of the reference's zeros, lay, Lay. -/
import Derived.Test.YtplhmhclcfclhaaExeAw
namespace Go.Proofs.Ytplhmhclcfclhaa
open Go.RowKit
attribute [local go_sem] ba_get ba_add

set_option maxRecDepth 100000 in
set_option maxHeartbeats 1000000 in
theorem zeros_any (n : Nat) (w : World) (hn : n ≤ 1099511627776) : Calls Try.prog 51 #[.int .i64 (n : Int)] w (Ret (.string ⟨(Pl.zs n).toArray⟩) w) := by
  go_enter Try.func51, Try.ntmps51
  go_wp2_with fail
  go_loop [3, 4] (fun s i => ∃ (j : Nat) (b : List UInt8), j ≤ n ∧ i = .int .i64 j ∧ s = .string ⟨b.toArray⟩ ∧ b.length ≤ j ∧ Hid (b = Pl.zs j)) (fun _ i => n - (intOf i).toNat)
  case atStart => exact ⟨0, [], by omega, rfl, rfl, by simp, rfl⟩
  case round =>
    obtain ⟨j, b, hj, rfl, rfl, hbl, H⟩ := hrel
    by_cases hlt : j < n
    · have hcat : b.length + 1 ≤ 9223372036854775807 := by omega
      go_wp2_with fail
      go_round
      case rel => exact ⟨j + 1, b ++ [0], by omega, by go_num, rfl, by simp; omega, by
        show _ = _
        rw [H.out, show [(0 : UInt8)] = Pl.zs 1 from rfl, Pl.zs_add]⟩
      case measure => simp [intOf]; omega
    · go_wp2_with fail
      go_ret
      exact ⟨by rw [← show j = n by omega, ← H.out]; rfl, rfl⟩
theorem zeros_int (x : Int) (w : World) (h0 : 0 ≤ x) (h1 : x ≤ 1099511627776) : Calls Try.prog 51 #[.int .i64 x] w (Ret (.string ⟨(Pl.zs x.toNat).toArray⟩) w) := by
  obtain ⟨n, rfl⟩ := Int.eq_ofNat_of_zero_le h0
  exact zeros_any n w (by omega)

attribute [local go_sem] ba_cut
set_option maxRecDepth 100000 in
set_option maxHeartbeats 1000000 in
theorem rlay_any (base : Nat) (A : Option Addr) (c : Nat) (L : List Pl.Lay) (at_ : Nat) (b0 : List UInt8) (wr0 : Bool) (w : World) (hown : w.ownsRow base 49 3 (.slice A L.length c) L.length (layCs L)) (hbase : base ≤ w.heap.size) (hL : L.length ≤ 1000) (hb0 : b0.length ≤ 100000) (hat : at_ ≤ 1000) :
    Calls Try.prog 49 #[.slice A L.length c, .int .i64 (at_ : Int), .string ⟨b0.toArray⟩, .bool wr0] w fun e w' => ∃ A' c', e = .returned (.slice A' (Pl.rlay L at_ b0 wr0).length c') ∧ w'.ownsRow base 49 3 (.slice A' (Pl.rlay L at_ b0 wr0).length c') (Pl.rlay L at_ b0 wr0).length (layCs (Pl.rlay L at_ b0 wr0)) ∧ Below base w w' := by
  obtain ⟨k, hk⟩ : ∃ k, Pl.pgs b0.length = k := ⟨_, rfl⟩
  have hk1 : k ≤ 1000 := by rw [← hk]; unfold Pl.pgs; omega
  have hk2 : b0.length ≤ 128 * k := by rw [← hk]; unfold Pl.pgs; omega
  have HI := Lib.hid info_lay
  have HK := Lib.hid hk; clear hk
  go_enter Try.func49, Try.ntmps49
  go_wp2_with fail
  (with_reducible refine (rpages_any _ _ ?_ ?_).mono ?_)
  · omega
  · omega
  rintro e w1 ⟨rfl, rfl⟩
  rw [Pl.pgs_int, HK.out]
  go_wp2_with fail
  (with_reducible refine (zeros_int _ _ ?_ ?_).mono ?_)
  · omega
  · omega
  rintro e w1 ⟨rfl, rfl⟩
  rw [show (128 * (k : Int) - (b0.length : Int)).toNat = 128 * k - b0.length by omega]
  have hcat : b0.length + (Pl.zs (128 * k - b0.length)).length ≤ 9223372036854775807 := by rw [Pl.zs_len]; omega
  have hbl : (b0 ++ Pl.zs (128 * k - b0.length)).length = 128 * k := by rw [List.length_append, Pl.zs_len]; omega
  have hpg := fun i (hi : 128 * i + 128 ≤ 128 * k) => Pl.pad_page b0 (128 * k) i hk2 hi
  obtain ⟨b, hb⟩ : ∃ b, b0 ++ Pl.zs (128 * k - b0.length) = b := ⟨_, rfl⟩
  rw [hb] at hbl hpg
  have hbl1 : b.length ≤ 128 * k := by omega
  have hbl2 : 128 * k ≤ b.length := by omega
  have HP := Lib.hid hpg; clear hpg hbl
  go_wp2_with fail
  go_loopw [0, 10] (fun v i wr => ∃ (j : Nat) (A' : Option Addr) (c' : Nat), j ≤ k ∧ i = .int .i64 j ∧ v = .slice A' (L.length + j) c' ∧ wr.ownsRow base 49 3 (.slice A' (L.length + j) c') (L.length + j) (layCs (Pl.rlayTo L at_ b0 wr0 j)) ∧ Below base w wr) (fun _ i _ => k - (intOf i).toNat)
  case atStart => exact ⟨0, A, c, by omega, rfl, rfl, by simpa [Pl.rlayTo] using hown, Below.refl _ _⟩
  case round =>
    obtain ⟨j, A1, c1, hj, rfl, rfl, hown1, hbw⟩ := hrel
    by_cases hlt : j < k
    · have hpj := HP.out j (by omega)
      have hx : List.take (128 * j + 128 - 128 * j) (List.drop (128 * j) b) = Pl.pageAt b0 j := by rw [show 128 * j + 128 - 128 * j = 128 by omega]; exact hpj
      have hx2 : List.take 128 (List.drop (128 * j) b) = Pl.pageAt b0 j := hpj
      have hxi0 : (0 : Int) ≤ 128 * (j : Int) := by omega
      have hxi1 : 128 * (j : Int) + 128 ≤ (b.length : Int) := by omega
      clear hpj
      go_wp2_with (at_builtin; refine push3 rfl (.tmp 27) (.tmp 40) 45 rfl base 49 _ 32 Try.underlying45 HI.out rfl _ _ _ _ _ _ _ rfl hown1 rfl rfl rfl rfl (by omega) (by omega) (by have := hbw.size; omega) ?_; intro A2 c2 w2 hown2 hb2)
      go_roundw
      case rel =>
        refine ⟨j + 1, A2, c2, by omega, by go_num, rfl, ?_, hbw.trans hb2⟩
        rw [Pl.rlayTo_succ, layCs_snoc]
        have e : layC ⟨((at_ + j : Nat) : Int), Pl.pageAt b0 j, wr0⟩ = [.int .i64 ((at_ : Int) + j), .string ⟨(Pl.pageAt b0 j).toArray⟩, .bool wr0] := by simp [layC]
        rw [e]; exact hown2
      case measure => simp [intOf]; omega
    · go_wp2_with fail
      go_ret
      have hjk : j = k := by omega
      have e : Pl.rlay L at_ b0 wr0 = Pl.rlayTo L at_ b0 wr0 j := by unfold Pl.rlay Pl.rlayTo; rw [HK.out, hjk]
      refine ⟨A1, c1, ?_, ?_, hbw⟩
      · rw [e, Pl.rlayTo_len]; rfl
      · rw [e, Pl.rlayTo_len]; exact hown1
end Go.Proofs.Ytplhmhclcfclhaa
