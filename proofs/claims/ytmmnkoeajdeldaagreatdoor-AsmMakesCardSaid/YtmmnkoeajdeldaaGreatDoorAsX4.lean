/- The operation of a name. The condition: what the package's table holds. -/
import Derived.Test.YtmmnkoeajdeldaaGreatDoorAsX2
namespace Go.Proofs.YtmmnkoeajdeldaaGreatDoor
open Go.RowKit Go.Maps Go.WideMaps
set_option linter.unusedVariables false
set_option linter.unusedSimpArgs false
attribute [local go_sem] ba_get ba_cut ba_add fld_k fld_s fld_n
def opNsV : List Value := ([] :: Pl.opNs).map fun s => .string ⟨s.toArray⟩
theorem opNs_len : Pl.opNs.length = 31 := rfl
/-- The table of the operations' names. -/
structure OpTab (w : World) : Prop where
  at_ : w.rangeAt 0 0 opNsV
  lt : 0 < w.heap.size
theorem OpTab.below {w w' : World} (h : OpTab w) (hb : Below w.heap.size w w') : OpTab w' :=
  ⟨fun j v hv => (hb.cell (p := ⟨_, 0 + j, none⟩) h.lt).trans (h.at_ j v hv), Nat.lt_of_lt_of_le h.lt hb.size⟩
theorem opF_at (s : List UInt8) : ∀ (l : List (List UInt8)) (i k : Nat) (h : k < l.length), Pl.opF s (l.drop k) i = if l[k] = s then some i else Pl.opF s (l.drop (k + 1)) (i + 1) := by
  intro l i k h
  rw [List.drop_eq_getElem_cons h]
  rfl
theorem opF_end (s : List UInt8) (l : List (List UInt8)) (i k : Nat) (h : l.length ≤ k) : Pl.opF s (l.drop k) i = none := by rw [List.drop_eq_nil_of_le h]; rfl
def opV (o : Option Nat) : Value := .tuple #[.int .u8 ((o.getD 0 : Nat) : Int), .bool o.isSome]
theorem opNs_small : ∀ s ∈ Pl.opNs, s.length ≤ 4 := by decide
set_option maxRecDepth 100000 in
set_option maxHeartbeats 1000000 in
theorem op_any (s : List UInt8) (hs : s.length ≤ 1000000) (w : World) (hO : OpTab w) : Calls Tryz.prog 67 #[.string ⟨s.toArray⟩] w (Ret (opV (Pl.opN s)) w) := by
  obtain ⟨R, hR⟩ : ∃ R, Pl.opN s = R := ⟨_, rfl⟩
  rw [hR]
  have HR := Lib.hid hR
  obtain ⟨L, hL⟩ : ∃ L, opNsV = L := ⟨_, rfl⟩
  have hLl : L.length = 32 := by rw [← hL]; rfl
  have hat := hO.at_
  rw [hL] at hat
  have hix : ∀ (k : Nat) (h : k < 31) (W : World), (Instr.index 88 (.agg L.toArray) (.int .i64 ((k : Int) + 1))).run Tryz.prog W = .ok (.string ⟨(Pl.opNs[k]'(by rw [opNs_len]; exact h)).toArray⟩) W := by
    intro k h W
    have h2 : L[k + 1]? = some (.string ⟨(Pl.opNs[k]'(by rw [opNs_len]; exact h)).toArray⟩) := by
      rw [← hL]
      simp [opNsV, opNs_len, h]
    have h3 : ((k : Int) + 1).toNat = k + 1 := by omega
    have hl : k + 1 < L.length := by omega
    rw [List.getElem?_eq_getElem hl] at h2
    injection h2 with h2
    simp only [Instr.index, asIntOf, Sem.run_bind, Sem.run_pure, Result.andThen_ok, run_underlying Tryz.underlying88]
    rw [if_pos (by omega)]
    simp [part, Sem.run_bind, Tryz.sizeOf9, Tryz.isAgg9, h3, List.getElem?_eq_getElem hl, h2]
  have hix0 : ∀ W : World, (Instr.index 88 (.agg L.toArray) (.int .i64 0)).run Tryz.prog W = .ok (.string ⟨#[]⟩) W := by
    intro W
    have h2 : L[0]? = some (.string ⟨#[]⟩) := by rw [← hL]; rfl
    simp only [Instr.index, asIntOf, Sem.run_bind, Sem.run_pure, Result.andThen_ok, run_underlying Tryz.underlying88]
    rw [if_pos (by omega)]
    simp [part, Sem.run_bind, Tryz.sizeOf9, Tryz.isAgg9, h2]
  have hi0 : (Tryz.prog.info? 88).map (·.size) = some L.length := by rw [hLl]; kernel_rfl
  have HL := Lib.hid (And.intro hat (And.intro (And.intro hix hix0) hi0))
  clear hR hL hat hix hO hi0 hix0
  go_enter Tryz.func67, Tryz.ntmps67
  go_wp2_with (refine wpList_load_mid rfl 88 (.global 0) rfl 0 0 rfl L _ HL.out.1 Tryz.underlying88 rfl HL.out.2.2 ?_)
  go_loopw [7] (fun i wr => ∃ k : Nat, k ≤ 32 ∧ i = .int .i64 (k : Int) ∧ wr = w ∧ Hid (Pl.opF s (Pl.opNs.drop (k - 1)) (max k 1) = R)) (fun i _ => 32 - (intOf i).toNat)
  case atStart => exact ⟨0, by omega, rfl, rfl, HR⟩
  case round =>
    obtain ⟨k, hk, rfl, rfl, HK⟩ := hrel
    by_cases hk32 : k < 32
    · rcases k with _ | k
      · have h0 : ∀ W : World, (Instr.index 88 (.agg L.toArray) (.int .i64 0)).run Tryz.prog W = .ok (.string ⟨#[]⟩) W := by
          intro W
          exact HL.out.2.1.2 W
        go_wp2_with fail
        exact ⟨⟨1, by omega, ret_i (by omega), trivial, HK⟩, by simp [intOf]⟩
      · have hk31 : k < 31 := by omega
        have hx := fun W => HL.out.2.1.1 k hk31 W
        have hlen : k < Pl.opNs.length := by rw [opNs_len]; exact hk31
        have hat := opF_at s Pl.opNs (k + 1) k hlen
        obtain ⟨n, hn⟩ : ∃ n, Pl.opNs[k]'hlen = n := ⟨_, rfl⟩
        rw [hn] at hx hat
        have HK2 := HK.out
        rw [Nat.add_sub_cancel, Nat.max_eq_left (by omega), hat] at HK2
        have hi : ((k + 1 : Nat) : Int) = (k : Int) + 1 := by omega
        rw [hi]
        clear hat hn hi HK
        by_cases hns : n = s
        · rw [if_pos hns] at HK2
          subst hns
          have HN := Lib.hid HK2
          clear HK2
          go_wp2_with fail
          go_ret2
          rw [← HN.out]
          refine ⟨?_, rfl⟩
          show Ending.returned (.tuple #[.int .u8 ((k : Int) + 1), .bool true]) = Ending.returned (.tuple #[.int .u8 ((k + 1 : Nat) : Int), .bool true])
          rw [show (((k + 1 : Nat)) : Int) = (k : Int) + 1 by omega]
        · rw [if_neg hns] at HK2
          have e1 : (n == s) = false := beq_eq_false_iff_ne.2 hns
          have HN := Lib.hid HK2
          clear HK2 hns
          go_wp2_with fail
          refine ⟨⟨k + 2, by omega, ret_i (by omega), trivial, Lib.hid ?_⟩, by simp only [intOf]; omega⟩
          rw [← HN.out, show k + 2 - 1 = k + 1 by omega, Nat.max_eq_left (by omega)]
    · obtain rfl : k = 32 := by omega
      have hRn : R = none := by rw [← HK.out]; exact opF_end s Pl.opNs _ _ (by rw [opNs_len]; omega)
      clear HK
      rw [show ((32 : Nat) : Int) = 32 from rfl]
      go_wp2_with fail
      go_ret2
      rw [hRn]
      exact ⟨rfl, rfl⟩
end Go.Proofs.YtmmnkoeajdeldaaGreatDoor
