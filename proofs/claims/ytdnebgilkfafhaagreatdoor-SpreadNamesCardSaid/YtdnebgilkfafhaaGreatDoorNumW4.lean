/- The walk of num.Row: the row's bytes, by a Builder. The walks of num's Dec and Int: the decimal text of a number, and the number of a text that is just that. -/
import Derived.Test.YtdnebgilkfafhaaGreatDoorNumW1
import Derived.Test.YtdnebgilkfafhaaGreatDoorShelf
import Derived.Test.YtdnebgilkfafhaaGreatDoorLib
import Derived.Test.YtdnebgilkfafhaaGreatDoorVars
import Derived.Test.YtdnebgilkfafhaaGreatDoorNumPlain
namespace Go.Proofs.YtdnebgilkfafhaaGreatDoor
open Go.RowKit
attribute [local go_sem] ba_get

def sum4 : List (List UInt8) → Nat
  | [] => 0
  | s :: l => s.length + 4 + sum4 l
theorem sum4_snoc (l : List (List UInt8)) (s : List UInt8) : sum4 (l ++ [s]) = sum4 l + (s.length + 4) := by
  induction l with
  | nil => simp [sum4]
  | cons x l ih => simp [sum4, ih]; omega
theorem sum4_take (l : List (List UInt8)) (j : Nat) (h : j < l.length) : sum4 (l.take (j + 1)) = sum4 (l.take j) + (l[j].length + 4) := by
  rw [List.take_succ_eq_append_getElem h, sum4_snoc]
theorem sum4_le (l : List (List UInt8)) : sum4 l ≤ 4 * sumLen l := by
  induction l with
  | nil => simp [sum4]
  | cons x l ih => simp [sum4, sumLen]; omega
theorem lenB_le (n : Nat) (h : 128 ≤ n) : (Pl.lenB n).length ≤ n := by
  rw [Pl.lenB_ge n h]
  have := Pl.lenB_len (n / 128)
  simp; omega
theorem lenB_pos (n : Nat) : 1 ≤ (Pl.lenB n).length := by
  by_cases h : n < 128
  · rw [Pl.lenB_lt n h]; simp
  · rw [Pl.lenB_ge n (by omega)]; simp
theorem rowB_le (l : List (List UInt8)) : (Pl.rowB l).length ≤ 2 * sumLen l := by
  induction l with
  | nil => simp [Pl.rowB]
  | cons x l ih =>
    have := Pl.lenB_len x.length
    simp [Pl.rowB, sumLen]; omega
theorem and127_i64 (m : Nat) (h : m < 9223372036854775808) : bits .and .i64 (m : Int) 127 = ((m % 128 : Nat) : Int) := by
  have := (bits_nat .i64 63 (by decide) (fun n h0 h1 => by rw [IntKind.wrap_i64]; omega) m 127 (by omega) (by omega)).1
  rw [nat_mask7] at this; exact this
theorem or128_u8 (m : Nat) (h : m < 128) : bits .or .u8 (m : Int) 128 = ((m + 128 : Nat) : Int) := by
  have := u8_or_nat m 128 (by omega) (by omega)
  rw [Nat.or_comm, nat_join 7 128 m (by omega) (by omega), Nat.add_comm] at this; exact this

set_option maxRecDepth 100000 in
set_option maxHeartbeats 400000 in
theorem row_any (A : Option Addr) (n c : Nat) (l : List (List UInt8)) (w : World) (ha : Rd w 1 A n (strs l)) (hn : n ≤ 9223372036854775807) (hs : sumLen l ≤ 17592186044416) :
    Calls Tryz.prog 73 #[.slice A n c] w (RetB (fun v _ => v = .string ⟨(Pl.rowB l).toArray⟩) w) := by
  have hl := ha.len1; rw [strs_len] at hl
  have HL := Lib.hid hl; clear hl
  have HS := Lib.hid hs; clear hs
  go_enter Tryz.func73, Tryz.ntmps73
  go_wp2_with fail
  go_loop [3, 12] (fun t i => ∃ (j q : Nat), j ≤ n ∧ i = .int .i64 j ∧ t = .int .i64 q ∧ Hid (sum4 (l.take j) = q)) (fun _ i => n - (intOf i).toNat)
  case atStart => exact ⟨0, 0, Nat.zero_le _, rfl, rfl, by simp [Hid, sum4]⟩
  case round =>
    obtain ⟨j, q, hj, rfl, rfl, H⟩ := hrel
    have hq : q ≤ 70368744177664 := by
      have h1 := sum4_le (l.take j)
      have h2 := sumLen_le l j
      have := HS.out
      have := H.out
      omega
    by_cases hlt : j < n
    · obtain ⟨b1, o1, rfl, -, hc1⟩ := ha.at1 hlt
      have hjl : j < l.length := by rw [HL.out]; exact hlt
      rw [strs_get l j hjl] at hc1
      have hst := sum4_take l j hjl
      rw [H.out] at hst
      have hle := sum4_le (l.take (j + 1))
      have hle2 := sumLen_le l (j + 1)
      obtain ⟨x, hx⟩ : ∃ x, l[j] = x := ⟨_, rfl⟩
      rw [hx] at hc1 hst
      have hx47 : x.length ≤ 70368744177664 := by
        have := HS.out
        omega
      have HH := Lib.hid hst; clear hst hle hle2 hx hjl
      go_wp2_with fail
      go_round
      case rel => exact ⟨j + 1, q + (x.length + 4), by omega, by go_num, by go_num, HH.out⟩
      case measure => simp [intOf]; omega
    · clear H
      have hbk : ((w.alloc (.cells #[.pointer none, .slice none 0 0] 172)).heap)[w.heap.size]? = some (.cells #[.pointer none, .slice none 0 0] 172 (0, 0)) := heap_alloc_new w _
      have HK := Lib.hid hbk; clear hbk
      go_wp2_with (go_at_call 105; (with_reducible refine (bld_grow w.heap.size w.heap.size q _ (Nat.le_refl _) HK.out (by simp) (by omega)).mono ?_); rintro e w1 ⟨rfl, hB1, hb1⟩)
      have hbw1 : Below w.heap.size w w1 := ((Below.refl _ _).alloc (Nat.le_refl _) _).trans hb1
      clear hb1 HK hq
      go_loopw [26] (fun i wr => ∃ (j : Nat) (b : List UInt8), j ≤ n ∧ i = .int .i64 j ∧ Bld w.heap.size w.heap.size b wr ∧ Below w.heap.size w wr ∧ Hid (Pl.rowB (l.take j) = b)) (fun i _ => n - (intOf i).toNat)
      case atStart => exact ⟨0, [], Nat.zero_le _, rfl, hB1, hbw1, by simp [Hid, Pl.rowB]⟩
      case round =>
        obtain ⟨j, b, hj, rfl, hB, hbw, H⟩ := hrel
        by_cases hlt : j < n
        · have ha' := ha.below hbw
          obtain ⟨b1, o1, rfl, -, hc1⟩ := ha'.at1 hlt
          have hjl : j < l.length := by rw [HL.out]; exact hlt
          rw [strs_get l j hjl] at hc1
          have hst := Pl.rowB_take l j hjl
          have hle := Pl.rowB_take_le l (j + 1)
          have hle2 := rowB_le l
          rw [hst, H.out] at hle
          rw [H.out] at hst
          obtain ⟨x, hx⟩ : ∃ x, l[j] = x := ⟨_, rfl⟩
          rw [hx] at hc1 hst hle
          have hlen : b.length + ((Pl.lenB x.length).length + x.length) ≤ 35184372088832 := by
            have := HS.out
            simp at hle; omega
          have HH := Lib.hid hst; clear hst hle hx hjl ha' hle2
          obtain ⟨wo, rfl⟩ : ∃ wo : World, wo = wr := ⟨_, rfl⟩
          go_wp2_with fail
          go_loopw [9] (fun t wr => ∃ (m : Nat) (a : List UInt8), t = .int .i64 m ∧ m ≤ x.length ∧ Bld w.heap.size w.heap.size a wr ∧ Below w.heap.size w wr ∧ Hid (a ++ Pl.lenB m = b ++ Pl.lenB x.length)) (fun t _ => (intOf t).toNat)
          case atStart => exact ⟨x.length, b, rfl, Nat.le_refl _, hB, hbw, rfl⟩
          case round =>
            clear hB hbw
            obtain ⟨m, a, rfl, hmx, hB, hbw, HM⟩ := hrel
            have hal : a.length + 1 ≤ 35184372088832 := by
              have h1 := congrArg List.length HM.out
              have h2 := lenB_pos m
              simp at h1; omega
            by_cases hm : m < 128
            · go_wp2_with (first
                | (go_at_call 111; (with_reducible refine (bld_writeInt w.heap.size w.heap.size a _ _ hB (by omega) (by omega) (by omega) hbw.size).mono ?_); rintro e w2 ⟨rfl, hB2, hb2, -⟩)
                | (go_at_call 106; (with_reducible refine (bld_writeString w.heap.size w.heap.size _ x _ hB2 (by simp; omega) (hbw.trans hb2).size).mono ?_); rintro e w3 ⟨rfl, hB3, hb3, -⟩))
              go_roundw
              case rel =>
                refine ⟨j + 1, _, by omega, by go_num, hB3, (hbw.trans hb2).trans hb3, ?_⟩
                have h1 := HM.out
                rw [Pl.lenB_lt m hm] at h1
                show _ = _
                rw [HH.out, ← List.append_assoc, ← h1]; rfl
              case measure => simp [intOf]; omega
            · have e1 := and127_i64 m (by omega)
              have e2 : bits .or .u8 ((m : Int) % 128) 128 = (m : Int) % 128 + 128 := by
                have := or128_u8 (m % 128) (by omega)
                simpa using this
              have hm1 : (m : Int) % 128 ≤ 127 := by omega
              have hm0 : 0 ≤ (m : Int) % 128 := by omega
              go_wp2_with (go_at_call 111; (with_reducible refine (bld_writeInt w.heap.size w.heap.size a _ _ hB (by omega) (by omega) (by omega) hbw.size).mono ?_); rintro e w2 ⟨rfl, hB2, hb2, -⟩)
              go_roundw
              case rel =>
                refine ⟨m / 128, _, by go_num, by omega, hB2, hbw.trans hb2, ?_⟩
                have h1 := HM.out
                rw [Pl.lenB_ge m (by omega)] at h1
                show _ = _
                rw [← h1, show ((m : Int) % 128 + 128).toNat = m % 128 + 128 by omega]; simp
              case measure => simp [intOf]; omega
        · have h1 := H.out
          rw [List.take_of_length_le (by rw [HL.out]; omega)] at h1
          have HX := Lib.hid h1; clear h1
          go_wp2_with (go_at_call 108; (with_reducible refine (bld_string w.heap.size w.heap.size b _ hB hbw.size).mono ?_); rintro e w2 ⟨rfl, hB2, hb2, -⟩)
          go_ret
          exact ⟨_, rfl, by rw [HX.out]; rfl, hbw.trans hb2⟩
end Go.Proofs.YtdnebgilkfafhaaGreatDoor
namespace Go.Proofs.YtdnebgilkfafhaaGreatDoor
open Go.RowKit
set_option linter.unusedVariables false

set_option maxRecDepth 100000 in
theorem dec_any (n : Int) (w : World) (h : Pl.I64 n) (hv : VTab w) : Calls Tryz.prog 74 #[.int .i64 n] w (RetB (fun v _ => v = .string ⟨(Lib.itoa n).toArray⟩) w) := by
  have h0 := h.1
  have h1 := h.2
  go_enter Tryz.func74, Tryz.ntmps74
  go_wp2_with fail
  (with_reducible refine (Tryz.strconv_FormatInt_10 n h0 h1 w hv).mono ?_)
  rintro e w1 ⟨rfl, k, os, hw⟩
  have hb : Below w.heap.size w w1 := by rw [hw]; exact below_grow w k os
  clear hw
  go_wp2_with fail
  go_ret
  exact ⟨_, rfl, rfl, hb⟩
def intV (o : Option Int) : Value := .tuple #[.int .i64 (o.getD 0), .bool o.isSome]
theorem toList_mk (s : List UInt8) : (⟨s.toArray⟩ : ByteArray).data.toList = s := by simp
set_option maxRecDepth 100000 in
set_option maxHeartbeats 1000000 in
theorem int_any (s : List UInt8) (w : World) (hs : s.length ≤ 1099511627776) (hv : VNum w) : Calls Tryz.prog 80 #[.string ⟨s.toArray⟩] w (RetB (fun v _ => v = intV (Pl.intQ s)) w) := by
  have hsz : (⟨s.toArray⟩ : ByteArray).size ≤ 281474976710656 := by simp [ByteArray.size]; omega
  obtain ⟨E, hE⟩ : ∃ E, Lib.parseIntB 64 s = E := ⟨_, rfl⟩
  obtain ⟨Q, hQ⟩ : ∃ Q, Pl.intQ s = Q := ⟨_, rfl⟩
  rw [hQ]
  have HQ := Lib.hid (show Pl.intE s E = Q by rw [← hQ, ← hE]; rfl)
  have HE := Lib.hid hE; clear hE hQ
  rcases E with v | _ | _
  · have hI : Pl.I64 v := by have := Lib.parseIntB_bounds HE.out; constructor <;> omega
    have hp := fun w => Tryz.strconv_ParseInt_10_at64_ok ⟨s.toArray⟩ (by omega) v (by rw [toList_mk]; exact HE.out) w
    have hd := fun w h => dec_any v w hI h
    obtain ⟨t, ht⟩ : ∃ t, Lib.itoa v = t := ⟨_, rfl⟩
    rw [ht] at hd
    have HT := Lib.hid ht; clear ht
    have HP := Lib.hid hp; clear hp
    have HD := Lib.hid hd; clear hd
    by_cases hts : t = s
    · subst hts
      have hq : Q = some v := by have := HQ.out; simp only [Pl.intE, HT.out] at this; simpa using this.symm
      have HQ2 := Lib.hid hq; clear hq
      go_enter Tryz.func80, Tryz.ntmps80
      go_wp2_with fail
      (with_reducible refine (HP.out w).mono ?_)
      rintro e w1 ⟨rfl, hw⟩
      have hb : Below w.heap.size w w1 := by rcases hw with hw | ⟨t, hw⟩ <;> rw [hw]; exact Below.refl _ _; exact below_bytes w _ t
      clear hw
      go_wp2_with fail
      (with_reducible refine (HD.out w1 (hv.tab.below hb)).mono ?_)
      rintro e w2 ⟨v, rfl, rfl, hb2⟩
      go_wp2_with fail
      go_ret2
      exact ⟨_, rfl, by rw [HQ2.out]; rfl, hb.trans (hb2.mono hb.size)⟩
    · have hne : (t == s) = false := beq_eq_false_iff_ne.2 hts
      have hq : Q = none := by have := HQ.out; simp only [Pl.intE, HT.out, if_neg hts] at this; exact this.symm
      have HQ2 := Lib.hid hq; clear hq
      go_enter Tryz.func80, Tryz.ntmps80
      go_wp2_with fail
      (with_reducible refine (HP.out w).mono ?_)
      rintro e w1 ⟨rfl, hw⟩
      have hb : Below w.heap.size w w1 := by rcases hw with hw | ⟨t, hw⟩ <;> rw [hw]; exact Below.refl _ _; exact below_bytes w _ t
      clear hw
      go_wp2_with fail
      (with_reducible refine (HD.out w1 (hv.tab.below hb)).mono ?_)
      rintro e w2 ⟨v, rfl, rfl, hb2⟩
      go_wp2_with fail
      go_ret2
      exact ⟨_, rfl, by rw [HQ2.out]; rfl, hb.trans (hb2.mono hb.size)⟩
  · have hq : Q = none := HQ.out.symm
    have HQ2 := Lib.hid hq; clear hq
    obtain ⟨ev, h1, h2, h3⟩ := hv.syn
    have HP := Lib.hid (Tryz.strconv_ParseInt_10_at64_syntax ⟨s.toArray⟩ hsz (by rw [toList_mk]; exact HE.out) ev w h1 h3)
    clear h1 h2 h3
    go_enter Tryz.func80, Tryz.ntmps80
    go_wp2_with fail
    (with_reducible refine HP.out.mono ?_)
    rintro e w1 ⟨N, rfl, hN, -, hb⟩
    go_wp2_with fail
    go_ret2
    exact ⟨_, rfl, by rw [HQ2.out]; rfl, hb⟩
  · have hq : Q = none := HQ.out.symm
    have HQ2 := Lib.hid hq; clear hq
    obtain ⟨ev, h1, h2, h3⟩ := hv.rng
    have HP := Lib.hid (Tryz.strconv_ParseInt_10_at64_range ⟨s.toArray⟩ hsz (by rw [toList_mk]; exact HE.out) ev w h1 h3)
    clear h1 h2 h3
    go_enter Tryz.func80, Tryz.ntmps80
    go_wp2_with fail
    (with_reducible refine HP.out.mono ?_)
    rintro e w1 ⟨N, rfl, hN, -, hb⟩
    go_wp2_with fail
    go_ret2
    exact ⟨_, rfl, by rw [HQ2.out]; rfl, hb⟩
end Go.Proofs.YtdnebgilkfafhaaGreatDoor
