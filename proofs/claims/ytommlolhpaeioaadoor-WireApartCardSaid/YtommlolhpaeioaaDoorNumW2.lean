/- The walks of the reference's Same, length, Row, of the statements' long. -/
import Derived.Test.YtommlolhpaeioaaDoorRd
import Derived.Test.YtommlolhpaeioaaDoorNumPlain
import Derived.Deep.QuietTactic
import Derived.BigQuiet
namespace Go.Proofs.YtommlolhpaeioaaDoor
open Go.RowKit
attribute [local go_sem] ba_get

/-- Drawn a few times, the world else as it was. -/
def RetQ (v : Value) (w : World) (e : Ending) (w' : World) : Prop := e = .returned v ∧ ∃ n, w' = w.drewN n

set_option maxRecDepth 100000 in
set_option maxHeartbeats 400000 in
theorem same_any (A B : Option Addr) (n m c d : Nat) (l k : List (List UInt8)) (w : World) (ha : Rd w 1 A n (strs l)) (hb : Rd w 1 B m (strs k)) (hn : n ≤ 9223372036854775807) (hm : m ≤ 9223372036854775807) :
    Calls Tryd.prog 27 #[.slice A n c, .slice B m d] w (RetQ (.bool (decide (l = k))) w) := by
  have hl := ha.len1; rw [strs_len] at hl
  have hk := hb.len1; rw [strs_len] at hk
  by_cases hnm : n = m
  · subst hnm
    have hnn : ((n : Int) != n) = false := by simp
    have HL := Lib.hid hl; clear hl
    have HK := Lib.hid hk; clear hk
    go_enter Tryd.func27, Tryd.ntmps27
    go_wp2
    go_loopw [13] (fun i wr => ∃ (j q : Nat), j ≤ n ∧ i = .int .i64 j ∧ wr = w.drewN q ∧ Hid (l.take j = k.take j)) (fun i _ => n - (intOf i).toNat)
    case atStart => exact ⟨0, 0, Nat.zero_le _, rfl, rfl, by simp [Hid]⟩
    case round =>
      obtain ⟨j, q, hj, rfl, rfl, H⟩ := hrel
      by_cases hlt : j < n
      · obtain ⟨b1, o1, rfl, -, hc1⟩ := ha.at1 hlt
        obtain ⟨b2, o2, rfl, -, hc2⟩ := hb.at1 hlt
        rw [strs_get l j (by rw [HL.out]; exact hlt)] at hc1
        rw [strs_get k j (by rw [HK.out]; exact hlt)] at hc2
        obtain ⟨x, hx⟩ : ∃ x, l[j]'(by rw [HL.out]; exact hlt) = x := ⟨_, rfl⟩
        obtain ⟨y, hy⟩ : ∃ y, k[j]'(by rw [HK.out]; exact hlt) = y := ⟨_, rfl⟩
        rw [hx] at hc1; rw [hy] at hc2
        have HX := Lib.hid hx; clear hx
        have HY := Lib.hid hy; clear hy
        go_wp2
        go_quiet (fail)
        go_wp2
        · go_ret
          rename_i hne
          have hne' : x ≠ y := by simpa using hne
          refine ⟨?_, _, World.drewN_drewN _ _ _⟩
          have : ¬ l = k := by
            rintro rfl
            exact hne' (HX.out.symm.trans HY.out)
          simp [this]
        · rename_i heq
          have heq' : x = y := by simpa using heq
          go_roundw
          case rel =>
            refine ⟨j + 1, _, by omega, by go_num, rfl, ?_⟩
            have h1 : j < l.length := by rw [HL.out]; exact hlt
            have h2 : j < k.length := by rw [HK.out]; exact hlt
            show List.take (j + 1) l = List.take (j + 1) k
            rw [List.take_succ_eq_append_getElem h1, List.take_succ_eq_append_getElem h2, H.out, HX.out, HY.out, heq']
          case measure => simp [intOf]; omega
      · go_wp2
        go_ret
        refine ⟨?_, _, rfl⟩
        have h1 := H.out
        rw [List.take_of_length_le (by rw [HL.out]; omega), List.take_of_length_le (by rw [HK.out]; omega)] at h1
        simp [h1]
  · have hnm' : ((n : Int) != m) = true := by rw [bne_iff_ne]; omega
    have HL := Lib.hid hl; clear hl
    have HK := Lib.hid hk; clear hk
    go_enter Tryd.func27, Tryd.ntmps27
    go_wp2
    go_ret
    refine ⟨?_, 0, rfl⟩
    have : ¬ l = k := by
      rintro rfl
      exact hnm (HL.out.symm.trans HK.out)
    simp [this]

/-- Are texts more than are looked at? -/
def sumLen : List (List UInt8) → Nat
  | [] => 0
  | s :: l => s.length + 1 + sumLen l
theorem sumLen_snoc (l : List (List UInt8)) (s : List UInt8) : sumLen (l ++ [s]) = sumLen l + (s.length + 1) := by
  induction l with
  | nil => simp [sumLen]
  | cons x l ih => simp [sumLen, ih]; omega
theorem sumLen_take (l : List (List UInt8)) (j : Nat) (h : j < l.length) : sumLen (l.take (j + 1)) = sumLen (l.take j) + (l[j].length + 1) := by
  rw [List.take_succ_eq_append_getElem h, sumLen_snoc]
theorem sumLen_le (l : List (List UInt8)) (j : Nat) : sumLen (l.take j) ≤ sumLen l := by
  induction l generalizing j with
  | nil => simp [sumLen]
  | cons x l ih => cases j <;> simp [sumLen]; exact ih _
theorem sumLen_length (l : List (List UInt8)) : l.length ≤ sumLen l := by
  induction l with
  | nil => simp [sumLen]
  | cons x l ih => simp [sumLen]; omega

end Go.Proofs.YtommlolhpaeioaaDoor
