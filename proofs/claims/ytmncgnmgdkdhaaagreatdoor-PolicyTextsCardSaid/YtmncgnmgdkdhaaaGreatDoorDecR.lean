/- The walks of the document's Dec and Int. -/
import Derived.Test.YtmncgnmgdkdhaaaGreatDoorDecW
import Derived.Test.YtmncgnmgdkdhaaaGreatDoorNumW2
namespace Go.Proofs.YtmncgnmgdkdhaaaGreatDoor
open Go.RowKit
set_option linter.unusedVariables false
set_option linter.unusedSimpArgs false
attribute [local go_sem] conv_byte
attribute [local go_sem] ba_add
attribute [local go_sem] ba_get

set_option maxRecDepth 100000 in
theorem rdec_dig (n : Int) (w : World) (c0 : 0 ≤ n) (c1 : n < 10) : Calls Tryz.prog 28 #[.int .i64 n] w (RetB (fun v _ => v = .string ⟨(Lib.itoa n).toArray⟩) w) := by
  obtain ⟨t, ht⟩ : ∃ t, Lib.itoa n = t := ⟨_, rfl⟩
  rw [ht]
  have HT := Lib.hid ht; clear ht
  have e1 : IntKind.u8.wrap (48 + n) = 48 + n := IntWalk.u8_in _ (by omega)
  go_enter Tryz.func28, Tryz.ntmps28
  go_wp2_with fail
  go_ret
  refine ⟨_, rfl, ?_, (Below.refl _ _).alloc (Nat.le_refl _) _⟩
  rw [← HT.out, Pl.itoa_digit c0 c1]
  show Value.string _ = Value.string _
  rw [show 48 + n.toNat = (48 + n).toNat by omega]
set_option maxRecDepth 100000 in
set_option maxHeartbeats 1000000 in
theorem rdec_ind (k : Nat) : ∀ (n : Int) (w : World), Pl.I64 n → n.natAbs ≤ k → Calls Tryz.prog 28 #[.int .i64 n] w (RetB (fun v _ => v = .string ⟨(Lib.itoa n).toArray⟩) w) := by
  induction k using Nat.strongRecOn with
  | ind k ih =>
    intro n w hI hk
    have IH := Lib.hid ih; clear ih
    have h0 := hI.1
    have h1 := hI.2
    obtain ⟨t, ht⟩ : ∃ t, Lib.itoa n = t := ⟨_, rfl⟩
    rw [ht]
    have HT := Lib.hid ht; clear ht
    by_cases c0 : 0 ≤ n
    · by_cases c1 : n < 10
      · rw [← HT.out]; exact rdec_dig n w c0 c1
      · have hk1 := fun w => IH.out (n / 10).natAbs (by omega) (n / 10) w ⟨by omega, by omega⟩ (Nat.le_refl _)
        have hk2 := fun w => IH.out (n % 10).natAbs (by omega) (n % 10) w ⟨by omega, by omega⟩ (Nat.le_refl _)
        obtain ⟨t1, ht1⟩ : ∃ t, Lib.itoa (n / 10) = t := ⟨_, rfl⟩
        obtain ⟨t2, ht2⟩ : ∃ t, Lib.itoa (n % 10) = t := ⟨_, rfl⟩
        have hl1 : t1.length ≤ 20 := by rw [← ht1]; exact (Pl.itoa_len ⟨by omega, by omega⟩).2
        have hl2 : t2.length ≤ 20 := by rw [← ht2]; exact (Pl.itoa_len ⟨by omega, by omega⟩).2
        rw [ht1] at hk1
        rw [ht2] at hk2
        have HK := Lib.hid (And.intro hk1 (And.intro hk2 (And.intro ht1 ht2))); clear hk1 hk2 ht1 ht2
        go_enter Tryz.func28, Tryz.ntmps28
        go_wp2_with fail
        (with_reducible refine (HK.out.1 _).mono ?_)
        rintro e w1 ⟨v, rfl, rfl, hb1⟩
        go_wp2_with fail
        (with_reducible refine (HK.out.2.1 _).mono ?_)
        rintro e w2 ⟨v, rfl, rfl, hb2⟩
        go_wp2_with fail
        go_ret
        refine ⟨_, rfl, ?_, hb1.trans (hb2.mono hb1.size)⟩
        rw [← HT.out, Pl.itoa_ten (by omega), HK.out.2.2.1, HK.out.2.2.2]
        rfl
    · by_cases c1 : -10 < n
      · have hk1 := fun w => rdec_dig (-n) w (by omega) (by omega)
        obtain ⟨t1, ht1⟩ : ∃ t, Lib.itoa (-n) = t := ⟨_, rfl⟩
        have hl1 : t1.length ≤ 20 := by rw [← ht1]; exact (Pl.itoa_len ⟨by omega, by omega⟩).2
        rw [ht1] at hk1
        have HK := Lib.hid (And.intro hk1 ht1); clear hk1 ht1
        go_enter Tryz.func28, Tryz.ntmps28
        go_wp2_with fail
        (with_reducible refine (HK.out.1 _).mono ?_)
        rintro e w1 ⟨v, rfl, rfl, hb1⟩
        go_wp2_with fail
        go_ret
        refine ⟨_, rfl, ?_, hb1⟩
        rw [← HT.out, Pl.itoa_neg1 (by omega) c1, HK.out.2]
        rfl
      · have e2 : n.tmod 10 = -(((-n) % 10)) := by
          have : n = -(-n) := by omega
          rw [this, Int.neg_tmod, Int.tmod_eq_emod_of_nonneg (by omega)]; simp
        have e1 : n.tdiv 10 = -(((-n) / 10)) := by
          have : n = -(-n) := by omega
          rw [this, Int.neg_tdiv, Int.tdiv_eq_ediv_of_nonneg (by omega)]; simp
        obtain ⟨q, hq⟩ : ∃ q, n.tdiv 10 = q := ⟨_, rfl⟩
        obtain ⟨r, hr⟩ : ∃ r, n.tmod 10 = r := ⟨_, rfl⟩
        have hr0 : -10 < r ∧ r ≤ 0 := by omega
        have hq0 : q < 0 ∧ -922337203685477581 < q ∧ q.natAbs < n.natAbs := by omega
        have hit := Pl.itoa_mten (n := n) (by omega)
        rw [hq, hr] at hit
        have hk1 := fun w => IH.out q.natAbs (by omega) q w ⟨by omega, by omega⟩ (Nat.le_refl _)
        have hk2 := fun w => rdec_dig (-r) w (by omega) (by omega)
        obtain ⟨t1, ht1⟩ : ∃ t, Lib.itoa q = t := ⟨_, rfl⟩
        obtain ⟨t2, ht2⟩ : ∃ t, Lib.itoa (-r) = t := ⟨_, rfl⟩
        have hl1 : t1.length ≤ 20 := by rw [← ht1]; exact (Pl.itoa_len ⟨by omega, by omega⟩).2
        have hl2 : t2.length ≤ 20 := by rw [← ht2]; exact (Pl.itoa_len ⟨by omega, by omega⟩).2
        rw [ht1] at hk1
        rw [ht2] at hk2
        rw [ht1, ht2] at hit
        have HK := Lib.hid (And.intro hk1 (And.intro hk2 hit)); clear hk1 hk2 ht1 ht2 hit e1 e2
        obtain ⟨hr1, hr2⟩ := hr0
        obtain ⟨hq1, hq2, -⟩ := hq0
        by_cases r0 : r < 0
        · go_enter Tryz.func28, Tryz.ntmps28
          go_wp2_with fail
          (with_reducible refine (HK.out.1 _).mono ?_)
          rintro e w1 ⟨v, rfl, rfl, hb1⟩
          go_wp2_with fail
          (with_reducible refine (HK.out.2.1 _).mono ?_)
          rintro e w2 ⟨v, rfl, rfl, hb2⟩
          go_wp2_with fail
          go_ret
          refine ⟨_, rfl, ?_, hb1.trans (hb2.mono hb1.size)⟩
          rw [← HT.out, HK.out.2.2]
          rfl
        · obtain rfl : r = 0 := by omega
          have hkk := HK.out.2.1
          rw [show (-(0 : Int)) = 0 from rfl] at hkk
          have HKK := Lib.hid hkk; clear hkk
          go_enter Tryz.func28, Tryz.ntmps28
          go_wp2_with fail
          (with_reducible refine (HK.out.1 _).mono ?_)
          rintro e w1 ⟨v, rfl, rfl, hb1⟩
          go_wp2_with fail
          (with_reducible refine (HKK.out _).mono ?_)
          rintro e w2 ⟨v, rfl, rfl, hb2⟩
          go_wp2_with fail
          go_ret
          refine ⟨_, rfl, ?_, hb1.trans (hb2.mono hb1.size)⟩
          rw [← HT.out, HK.out.2.2]
          rfl
theorem rdec_any (n : Int) (w : World) (h : Pl.I64 n) : Calls Tryz.prog 28 #[.int .i64 n] w (RetB (fun v _ => v = .string ⟨(Lib.itoa n).toArray⟩) w) := rdec_ind _ n w h (Nat.le_refl _)

theorem rint_hz {s : List UInt8} (k : Nat) (hk : k < s.length) (h : ¬ (s[k] = 45 ∧ k = 0)) : Pl.zS s ≤ k := by
  unfold Pl.zS
  split
  · next hn =>
    rcases Nat.eq_zero_or_pos k with rfl | h1
    · refine absurd ⟨?_, rfl⟩ h
      unfold Pl.negS at hn
      cases s with
      | nil => simp at hk
      | cons c r => simpa using hn
    · omega
  · omega
theorem negS_at {s : List UInt8} (h : 0 < s.length) : Pl.negS s = decide (s[0].toNat = 45) := by
  cases s with
  | nil => simp at h
  | cons c r =>
    unfold Pl.negS
    rw [Bool.eq_iff_iff]
    simp
    constructor
    · rintro rfl; rfl
    · intro h; exact UInt8.toNat_inj.1 h
set_option maxRecDepth 100000 in
set_option maxHeartbeats 2000000 in
theorem rint_any (s : List UInt8) (w : World) (hs : s.length ≤ 1099511627776) : Calls Tryz.prog 39 #[.string ⟨s.toArray⟩] w (RetB (fun v _ => v = intV (Pl.intQ s)) w) := by
  obtain ⟨Q, hQ⟩ : ∃ Q, Pl.intQ s = Q := ⟨_, rfl⟩
  rw [hQ]
  have HQ := Lib.hid hQ; clear hQ
  by_cases h0 : s.length = 0
  · have hq : Q = none := by rw [← HQ.out]; exact Pl.intQ_none_len (.inl h0)
    have HQ2 := Lib.hid hq; clear hq
    obtain rfl : s = [] := List.eq_nil_of_length_eq_zero h0
    clear h0
    go_enter Tryz.func39, Tryz.ntmps39
    go_wp2_with fail
    go_ret2
    exact ⟨_, rfl, by rw [HQ2.out]; rfl, Below.refl _ _⟩
  have hl0 : (((s.length : Nat) : Int) == 0) = false := by simp; intro h; subst h; simp at h0
  have hl1 : 0 < s.length := by omega
  clear h0
  by_cases h1 : 20 < s.length
  · have hq : Q = none := by rw [← HQ.out]; exact Pl.intQ_none_len (.inr h1)
    have hl2 : decide ((20 : Int) < ((s.length : Nat) : Int)) = true := decide_eq_true (by omega)
    have HQ2 := Lib.hid hq; clear hq
    go_enter Tryz.func39, Tryz.ntmps39
    go_wp2_with fail
    go_ret2
    exact ⟨_, rfl, by rw [HQ2.out]; rfl, Below.refl _ _⟩
  have hl2 : decide ((20 : Int) < ((s.length : Nat) : Int)) = false := decide_eq_false (by omega)
  go_enter Tryz.func39, Tryz.ntmps39
  go_wp2_with fail
  clear hl0 hl2
  go_loop [4, 5] (fun n i => ∃ (k : Nat) (x : Int), k ≤ s.length ∧ i = .int .i64 (k : Nat) ∧ n = .int .i64 x ∧ Hid (Pl.digsTo s k ∧ Pl.readN s k = x)) (fun _ i => s.length - (intOf i).toNat)
  case atStart => exact ⟨0, 0, by omega, rfl, rfl, ⟨Pl.digs_zero s, Pl.readN_zero s⟩⟩
  case round =>
    obtain ⟨k, x, hk, rfl, rfl, HX⟩ := hrel
    by_cases hkl : k < s.length
    · obtain ⟨c, hc⟩ : ∃ c, s[k] = c := ⟨_, rfl⟩
      obtain ⟨c0, hc0⟩ : ∃ c, s[0] = c := ⟨_, rfl⟩
      have hcb := c.toNat_lt
      have hcb0 := c0.toNat_lt
      have HC := Lib.hid (And.intro hc hc0)
      have bad : Pl.zS s ≤ k → ¬ (48 ≤ c.toNat ∧ c.toNat ≤ 57) → Q = none := fun hz hd => by
        rw [← HQ.out]
        exact Pl.intQ_none_dig hkl hz (by rw [HC.out.1]; exact decide_eq_false hd)
      have BAD := Lib.hid bad; clear bad
      by_cases hA : c = 45
      · subst hA
        by_cases hk0 : k = 0
        · subst hk0
          have hneg : Pl.negS s = true := by rw [negS_at hl1, HC.out.1]; rfl
          have hx : x = 0 := by rw [← HX.out.2]; exact Pl.readN_zero s
          have HN := Lib.hid (And.intro hneg hx); clear hneg hx hc0
          go_wp2_with fail
          go_round
          case rel => exact ⟨1, x, by omega, by go_num, rfl, ⟨Pl.digs_sign HN.out.1, by rw [HN.out.2]; exact Pl.readN_sign HN.out.1⟩⟩
          case measure => simp [intOf]; omega
        · have hk1 : ((k : Int) == 0) = false := by simp; omega
          have HQ2 := Lib.hid (BAD.out (rint_hz k hkl (fun h => hk0 h.2)) (by decide))
          go_wp2_with fail
          go_ret2
          exact ⟨_, rfl, by rw [HQ2.out]; rfl, Below.refl _ _⟩
      · have hA' : ((c.toNat : Int) == 45) = false := by
          rw [beq_eq_false_iff_ne]; intro h; exact hA (UInt8.toNat_inj.1 (by show c.toNat = 45; omega))
        have hz : Pl.zS s ≤ k := rint_hz k hkl (fun h => hA (HC.out.1 ▸ h.1))
        by_cases hd1 : c.toNat < 48
        · have HQ2 := Lib.hid (BAD.out hz (by omega))
          go_wp2_with fail
          go_ret2
          exact ⟨_, rfl, by rw [HQ2.out]; rfl, Below.refl _ _⟩
        by_cases hd2 : 57 < c.toNat
        · have HQ2 := Lib.hid (BAD.out hz (by omega))
          go_wp2_with fail
          go_ret2
          exact ⟨_, rfl, by rw [HQ2.out]; rfl, Below.refl _ _⟩
        have hst := Pl.readN_step hkl hz
        have hdg := Pl.digs_step hkl hz HX.out.1 (by rw [HC.out.1]; exact decide_eq_true (by omega))
        rw [HX.out.2, HC.out.1] at hst
        by_cases hn : c0 = 45
        · subst hn
          have hneg : Pl.negS s = true := by rw [negS_at hl1, HC.out.2]; rfl
          rw [hneg, if_pos rfl] at hst
          have HS := Lib.hid (And.intro hst hdg); clear hst hdg hneg
          go_wp2_with fail
          go_round
          case rel => exact ⟨k + 1, _, by omega, by go_num, rfl, ⟨HS.out.2, HS.out.1⟩⟩
          case measure => simp [intOf]; omega
        · have hn' : ((c0.toNat : Int) == 45) = false := by
            rw [beq_eq_false_iff_ne]; intro h; exact hn (UInt8.toNat_inj.1 (by show c0.toNat = 45; omega))
          have hneg : Pl.negS s = false := by
            rw [negS_at hl1, HC.out.2]; exact decide_eq_false (fun h => hn (UInt8.toNat_inj.1 h))
          rw [hneg, if_neg (by simp)] at hst
          have HS := Lib.hid (And.intro hst hdg); clear hst hdg hneg
          go_wp2_with fail
          go_round
          case rel => exact ⟨k + 1, _, by omega, by go_num, rfl, ⟨HS.out.2, HS.out.1⟩⟩
          case measure => simp [intOf]; omega
    · obtain rfl : k = s.length := by omega
      have hI : Pl.I64 x := by rw [← HX.out.2]; exact Pl.wrapI_in _
      have hd := fun w => rdec_any x w hI
      have he := Pl.intQ_end (s := s)
      rw [HX.out.2, HQ.out] at he
      obtain ⟨t, ht⟩ : ∃ t, Lib.itoa x = t := ⟨_, rfl⟩
      rw [ht] at hd he
      have HD := Lib.hid (And.intro hd he); clear hd he ht hI
      by_cases hts : t = s
      · subst hts
        have hq : Q = some x := by have := HD.out.2; simpa using this
        have HQ2 := Lib.hid hq; clear hq
        go_wp2_with fail
        (with_reducible refine (HD.out.1 _).mono ?_)
        rintro e w1 ⟨v, rfl, rfl, hb1⟩
        go_wp2_with fail
        go_ret2
        exact ⟨_, rfl, by rw [HQ2.out]; rfl, hb1⟩
      · have hne : (t == s) = false := beq_eq_false_iff_ne.2 hts
        have hq : Q = none := by have := HD.out.2; rwa [if_neg hts] at this
        have HQ2 := Lib.hid hq; clear hq
        go_wp2_with fail
        (with_reducible refine (HD.out.1 _).mono ?_)
        rintro e w1 ⟨v, rfl, rfl, hb1⟩
        go_wp2_with fail
        go_ret2
        exact ⟨_, rfl, by rw [HQ2.out]; rfl, hb1⟩
end Go.Proofs.YtmncgnmgdkdhaaaGreatDoor
