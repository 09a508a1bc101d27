/- The walk of the reference's Texts. -/
import Derived.Test.YtommlolhpaeioaaDoorNumW1
namespace Go.Proofs.YtommlolhpaeioaaDoor
open Go.RowKit
attribute [local go_sem] ba_get ba_cut
attribute [local go_sem] cut_all List.drop_zero Nat.sub_zero

set_option maxRecDepth 100000 in
set_option maxHeartbeats 1000000 in
theorem rtexts_any (b0 : List UInt8) (w : World) (hs : b0.length ≤ 1099511627776) :
    Calls Tryd.prog 66 #[.string ⟨b0.toArray⟩] w (RetB (TextsOut w.heap.size (Pl.texts b0)) w) := by
  obtain ⟨r, hr⟩ : ∃ r, Pl.texts b0 = r := ⟨_, rfl⟩
  rw [hr]
  have Hr := Lib.hid hr
  clear hr
  have hin := info_str
  have HI := Lib.hid hin; clear hin
  go_enter Tryd.func66, Tryd.ntmps66
  go_wp2_with fail
  go_loopw [4, 5] (fun v t wr => ∃ (a : Nat) (acc : List (List UInt8)) (k : Nat), t = .int .i64 a ∧ a ≤ b0.length ∧ acc.length ≤ a ∧ wr.ownsRow w.heap.size 9 1 v acc.length (strs acc) ∧ Below w.heap.size w wr ∧ Hid (b0.length - a ≤ k ∧ Pl.textsA k (b0.drop a) acc = r)) (fun _ t _ => b0.length - (intOf t).toNat)
  case atStart => exact ⟨0, [], b0.length, rfl, by simp, by simp, World.ownsRow_made _ _ _ (Nat.le_refl _) (by simp [maxLen]) (by simp), (Below.refl _ _).alloc (Nat.le_refl _) _, ⟨by simp, Hr⟩⟩
  case round =>
    obtain ⟨a, acc, q, rfl, hle, hacc, hown, hbw, H⟩ := hrel
    obtain ⟨wo, rfl⟩ : ∃ wo : World, wo = wr := ⟨_, rfl⟩
    by_cases hlt : a < b0.length
    · have hbn : b0.drop a ≠ [] := fun h => by have := congrArg List.length h; simp at this; omega
      obtain ⟨⟨n, u, e⟩, hlr⟩ : ∃ x, Pl.lenOf (b0.drop a) 0 0 = x := ⟨_, rfl⟩
      have hbd := Pl.lenOf_bd (b0.drop a) 0 0 (by omega) (by omega)
      rw [hlr] at hbd
      simp only [Nat.zero_add, List.length_drop] at hbd
      have HF := Lib.hid (And.intro hbn (And.intro hlr hbd)); clear hbn hlr hbd
      go_wp2_with fail
      go_loopw [5, 6, 7, 8] (fun t5 t6 t7 t8 wr => ∃ (k m un : Nat), t5 = .int .i64 ((a + k : Nat) : Int) ∧ a + k ≤ b0.length ∧ t6 = .int .i64 m ∧ t7 = .int .i64 un ∧ t8 = .int .i64 k ∧ k ≤ 3 ∧ un ≤ 2097152 ∧ m ≤ 2097152 ∧ wr = wo ∧ Hid (un = 128 ^ k ∧ m < 128 ^ k ∧ Pl.lenOf (b0.drop (a + k)) k m = (n, u, e))) (fun _ _ _ t8 _ => 4 - (intOf t8).toNat)
      case atStart => exact ⟨0, 0, 1, by simp, by omega, rfl, rfl, rfl, by omega, by omega, by omega, rfl, ⟨by omega, by omega, HF.out.2.1⟩⟩
      case round =>
        obtain ⟨k, m, un, rfl, hak, rfl, rfl, rfl, hk3, hun, hm2, rfl, HM⟩ := hrel
        by_cases hend : a + k = b0.length
        · have hend' : ((a : Int) + k == b0.length) = true := beq_iff_eq.2 (by omega)
          have HE := Lib.hid hend; clear hend
          have h1 := HM.out.2.2
          rw [Pl.lenOf_end _ _ _ (by rw [HE.out]; omega)] at h1
          simp only [Prod.mk.injEq] at h1
          obtain ⟨rfl, rfl, rfl⟩ := h1
          go_wp2_with fail
          go_ret2
          have h2 := H.out.2
          rw [Pl.textsA_err q (b0.drop a) acc 0 0 4 HF.out.1 (by have := H.out.1; simp; omega) HF.out.2.1 (by omega)] at h2
          subst h2
          exact ⟨_, rfl, ⟨_, rfl, World.ownsRow_nil _ _ _ _⟩, hbw⟩
        · have hend' : ((a : Int) + k == b0.length) = false := beq_eq_false_iff_ne.2 (by omega)
          have hak' : a + k < b0.length := by omega
          obtain ⟨c, hc⟩ : ∃ c, b0[a + k] = c := ⟨_, rfl⟩
          have hstep := Pl.lenOf_stepAt b0 (a + k) k m hak'
          obtain ⟨hun', hmk, hlr⟩ := HM.out
          rw [hc, hlr] at hstep
          have hnx := Pl.or_len_lt m k c.toNat hmk
          have hcb := Pl.byte_lt c
          have hwc : wrap64 (c.toNat : Int) = c.toNat := IntWalk.wrap64_in _ ⟨by omega, by omega⟩
          obtain ⟨p, hp⟩ : ∃ p : Nat, c.toNat % 128 * un = p := ⟨_, rfl⟩
          have hp2 : p ≤ 127 * 2097152 := by rw [← hp]; exact Nat.mul_le_mul (by omega) hun
          have hpi : (c.toNat : Int) % 128 * un = p := by rw [← hp]; simp
          rw [← hun', hp] at hstep hnx
          have HS := Lib.hid (And.intro hstep (And.intro hnx (And.intro hun' hp))); clear hstep hnx hun' hmk hlr hp hend HM
          by_cases h1 : 128 ≤ (c.toNat : Int)
          · have h1' : ¬ (c.toNat : Int) < 128 := by omega
            by_cases h3 : k = 3
            · subst h3
              go_wp2_with fail
              go_ret2
              have hstep := HS.out.1
              rw [if_pos (by simp; omega)] at hstep
              simp only [Prod.mk.injEq] at hstep
              obtain ⟨rfl, rfl, rfl⟩ := hstep
              have h2 := H.out.2
              rw [Pl.textsA_err q (b0.drop a) acc 0 0 3 HF.out.1 (by have := H.out.1; simp; omega) HF.out.2.1 (by omega)] at h2
              subst h2
              exact ⟨_, rfl, ⟨_, rfl, World.ownsRow_nil _ _ _ _⟩, hbw⟩
            · have h3' : ((k : Int) == 3) = false := by simp; omega
              have hunk : un * 128 ≤ 2097152 ∧ m + p ≤ 2097152 := by
                have h4 := HS.out.2.2.1
                have h5 := HS.out.2.1
                have h6 : 128 ^ (k + 1) ≤ 128 ^ 3 := Nat.pow_le_pow_right (by omega) (by omega)
                rw [Nat.pow_succ, ← h4] at h6
                rw [Nat.pow_succ, ← h4] at h5
                omega
              obtain ⟨hunk, hmp⟩ := hunk
              go_wp2_with fail
              go_roundw
              case rel =>
                obtain ⟨hstep, hnx, hun', hp⟩ := HS.out
                rw [if_neg (by omega), if_pos (by omega)] at hstep
                exact ⟨k + 1, m + p, un * 128, by go_num, by omega, by go_num, by go_num, by go_num, by omega, by omega, by omega, by trivial, ⟨by rw [hun', Nat.pow_succ], hnx, hstep.symm⟩⟩
              case measure => simp [intOf]; omega
          · have h1' : (c.toNat : Int) < 128 := by omega
            by_cases h0 : c.toNat = 0 ∧ 0 < k
            · obtain ⟨h0, hk0⟩ := h0
              go_wp2_with fail
              go_ret2
              have hstep := HS.out.1
              rw [if_neg (by omega), if_neg (by omega), if_pos (by omega)] at hstep
              simp only [Prod.mk.injEq] at hstep
              obtain ⟨rfl, rfl, rfl⟩ := hstep
              have h2 := H.out.2
              rw [Pl.textsA_err q (b0.drop a) acc 0 0 3 HF.out.1 (by have := H.out.1; simp; omega) HF.out.2.1 (by omega)] at h2
              subst h2
              exact ⟨_, rfl, ⟨_, rfl, World.ownsRow_nil _ _ _ _⟩, hbw⟩
            · have hstep := HS.out.1
              rw [if_neg (by omega), if_neg (by omega), if_neg h0] at hstep
              simp only [Prod.mk.injEq] at hstep
              obtain ⟨rfl, rfl, rfl⟩ := hstep
              have hb0 : ((c.toNat : Int) == 0) = false ∨ (((c.toNat : Int) == 0) = true ∧ decide (0 < k) = false) := by
                by_cases hk0 : c.toNat = 0
                · exact .inr ⟨beq_iff_eq.2 (by omega), by simp; omega⟩
                · exact .inl (beq_eq_false_iff_ne.2 (by omega))
              clear h0
              by_cases hsh : b0.length - (a + k + 1) < m + p
              · rcases hb0 with hb0 | ⟨hb0, hb0'⟩
                all_goals go_wp2_with fail
                all_goals go_ret2
                all_goals have h2 := H.out.2
                all_goals rw [Pl.textsA_short q (b0.drop a) acc (m + p) (k + 1) HF.out.1 (by have := H.out.1; simp; omega) HF.out.2.1 (by simp; omega)] at h2
                all_goals subst h2
                all_goals exact ⟨_, rfl, ⟨_, rfl, World.ownsRow_nil _ _ _ _⟩, hbw⟩
              · rcases hb0 with hb0 | ⟨hb0, hb0'⟩
                all_goals go_wp2_with (at_builtin; refine push_one rfl (.tmp 51) (.tmp 58) 23 rfl w.heap.size 9 (.string ⟨#[]⟩) 16 Tryd.underlying23 HI.out rfl _ _ _ _ _ rfl hown rfl rfl (by omega) (by omega) hbw.size ?_; intro v' w1 hown1 hb1)
                all_goals go_roundw
                case rel | rel =>
                  refine ⟨a + k + 1 + (m + p), acc ++ [((b0.drop a).drop (k + 1)).take (m + p)], q - 1, by go_num, by omega, by simp; omega, ?_, hbw.trans hb1, ?_, ?_⟩
                  · rw [strs_snoc]
                    have ex : ((b0.drop a).drop (k + 1)).take (m + p) = List.take (a + k + 1 + (m + p) - (a + k + 1)) (List.drop (a + k + 1) b0) := by
                      rw [List.drop_drop, show a + k + 1 + (m + p) - (a + k + 1) = m + p by omega, show a + (k + 1) = a + k + 1 by omega]
                    rw [ex]; simpa using hown1
                  · have := H.out.1; omega
                  · have h1 := H.out.2
                    rw [Pl.textsA_more q (b0.drop a) acc (m + p) (k + 1) HF.out.1 (by have := H.out.1; simp; omega) HF.out.2.1 (by simp; omega)] at h1
                    rw [← h1, List.drop_drop, List.drop_drop, show a + (k + 1) + (m + p) = a + k + 1 + (m + p) by omega]
                case measure | measure => simp [intOf]; omega
    · go_wp2_with fail
      go_ret2
      have h1 := H.out.2
      rw [List.drop_eq_nil_of_le (by omega), Pl.textsA_nil] at h1
      subst h1
      exact ⟨_, rfl, ⟨_, rfl, hown⟩, hbw⟩
end Go.Proofs.YtommlolhpaeioaaDoor
