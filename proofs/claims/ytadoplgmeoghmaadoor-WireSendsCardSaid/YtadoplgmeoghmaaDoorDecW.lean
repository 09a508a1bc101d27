/- The walks of num's Dec and Int: the decimal text of a number, and the number of a text that is just that. -/
import Derived.Test.YtadoplgmeoghmaaDoorLib
import Derived.Test.YtadoplgmeoghmaaDoorVars
import Derived.Test.YtadoplgmeoghmaaDoorNumPlain
namespace Go.Proofs.YtadoplgmeoghmaaDoor
open Go.RowKit
set_option linter.unusedVariables false

set_option maxRecDepth 100000 in
theorem dec_any (n : Int) (w : World) (h : Pl.I64 n) (hv : VTab w) : Calls Tryd.prog 16 #[.int .i64 n] w (RetB (fun v _ => v = .string ⟨(Lib.itoa n).toArray⟩) w) := by
  have h0 := h.1
  have h1 := h.2
  go_enter Tryd.func16, Tryd.ntmps16
  go_wp2_with fail
  (with_reducible refine (Tryd.strconv_FormatInt_10 n h0 h1 w hv).mono ?_)
  rintro e w1 ⟨rfl, k, os, hw⟩
  have hb : Below w.heap.size w w1 := by rw [hw]; exact below_grow w k os
  clear hw
  go_wp2_with fail
  go_ret
  exact ⟨_, rfl, rfl, hb⟩
def intV (o : Option Int) : Value := .tuple #[.int .i64 (o.getD 0), .bool o.isSome]
theorem toList_mk (s : List UInt8) : (⟨s.toArray⟩ : ByteArray).data.toList = s := by simp
set_option maxRecDepth 100000 in
set_option maxHeartbeats 1000000 in
theorem int_any (s : List UInt8) (w : World) (hs : s.length ≤ 1099511627776) (hv : VNum w) : Calls Tryd.prog 27 #[.string ⟨s.toArray⟩] w (RetB (fun v _ => v = intV (Pl.intQ s)) w) := by
  have hsz : (⟨s.toArray⟩ : ByteArray).size ≤ 281474976710656 := by simp [ByteArray.size]; omega
  obtain ⟨E, hE⟩ : ∃ E, Lib.parseIntB 64 s = E := ⟨_, rfl⟩
  obtain ⟨Q, hQ⟩ : ∃ Q, Pl.intQ s = Q := ⟨_, rfl⟩
  rw [hQ]
  have HQ := Lib.hid (show Pl.intE s E = Q by rw [← hQ, ← hE]; rfl)
  have HE := Lib.hid hE; clear hE hQ
  rcases E with v | _ | _
  · have hI : Pl.I64 v := by have := Lib.parseIntB_bounds HE.out; constructor <;> omega
    have hp := fun w => Tryd.strconv_ParseInt_10_at64_ok ⟨s.toArray⟩ (by omega) v (by rw [toList_mk]; exact HE.out) w
    have hd := fun w h => dec_any v w hI h
    obtain ⟨t, ht⟩ : ∃ t, Lib.itoa v = t := ⟨_, rfl⟩
    rw [ht] at hd
    have HT := Lib.hid ht; clear ht
    have HP := Lib.hid hp; clear hp
    have HD := Lib.hid hd; clear hd
    by_cases hts : t = s
    · subst hts
      have hq : Q = some v := by have := HQ.out; simp only [Pl.intE, HT.out] at this; simpa using this.symm
      have HQ2 := Lib.hid hq; clear hq
      go_enter Tryd.func27, Tryd.ntmps27
      go_wp2_with fail
      (with_reducible refine (HP.out w).mono ?_)
      rintro e w1 ⟨rfl, hw⟩
      have hb : Below w.heap.size w w1 := by rcases hw with hw | ⟨t, hw⟩ <;> rw [hw]; exact Below.refl _ _; exact below_bytes w _ t
      clear hw
      go_wp2_with fail
      (with_reducible refine (HD.out w1 (hv.tab.below hb)).mono ?_)
      rintro e w2 ⟨v, rfl, rfl, hb2⟩
      go_wp2_with fail
      go_ret2
      exact ⟨_, rfl, by rw [HQ2.out]; rfl, hb.trans (hb2.mono hb.size)⟩
    · have hne : (t == s) = false := beq_eq_false_iff_ne.2 hts
      have hq : Q = none := by have := HQ.out; simp only [Pl.intE, HT.out, if_neg hts] at this; exact this.symm
      have HQ2 := Lib.hid hq; clear hq
      go_enter Tryd.func27, Tryd.ntmps27
      go_wp2_with fail
      (with_reducible refine (HP.out w).mono ?_)
      rintro e w1 ⟨rfl, hw⟩
      have hb : Below w.heap.size w w1 := by rcases hw with hw | ⟨t, hw⟩ <;> rw [hw]; exact Below.refl _ _; exact below_bytes w _ t
      clear hw
      go_wp2_with fail
      (with_reducible refine (HD.out w1 (hv.tab.below hb)).mono ?_)
      rintro e w2 ⟨v, rfl, rfl, hb2⟩
      go_wp2_with fail
      go_ret2
      exact ⟨_, rfl, by rw [HQ2.out]; rfl, hb.trans (hb2.mono hb.size)⟩
  · have hq : Q = none := HQ.out.symm
    have HQ2 := Lib.hid hq; clear hq
    obtain ⟨ev, h1, h2, h3⟩ := hv.syn
    have HP := Lib.hid (Tryd.strconv_ParseInt_10_at64_syntax ⟨s.toArray⟩ hsz (by rw [toList_mk]; exact HE.out) ev w h1 h3)
    clear h1 h2 h3
    go_enter Tryd.func27, Tryd.ntmps27
    go_wp2_with fail
    (with_reducible refine HP.out.mono ?_)
    rintro e w1 ⟨N, rfl, hN, -, hb⟩
    go_wp2_with fail
    go_ret2
    exact ⟨_, rfl, by rw [HQ2.out]; rfl, hb⟩
  · have hq : Q = none := HQ.out.symm
    have HQ2 := Lib.hid hq; clear hq
    obtain ⟨ev, h1, h2, h3⟩ := hv.rng
    have HP := Lib.hid (Tryd.strconv_ParseInt_10_at64_range ⟨s.toArray⟩ hsz (by rw [toList_mk]; exact HE.out) ev w h1 h3)
    clear h1 h2 h3
    go_enter Tryd.func27, Tryd.ntmps27
    go_wp2_with fail
    (with_reducible refine HP.out.mono ?_)
    rintro e w1 ⟨N, rfl, hN, -, hb⟩
    go_wp2_with fail
    go_ret2
    exact ⟨_, rfl, by rw [HQ2.out]; rfl, hb⟩
end Go.Proofs.YtadoplgmeoghmaaDoor
