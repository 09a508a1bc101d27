/- NumBytes: for every number, size and text the statement returns true, and nothing that was there has turned. No condition. -/
import Derived.Test.YtplhmhclcfclhaaNumAl
import Derived.Test.YtplhmhclcfclhaaOpen
namespace Go.Proofs.Ytplhmhclcfclhaa
open Go.ChangeShapes Go.WideShapes Go.ChangeAt Go.RowKit
set_option linter.unusedVariables false

theorem put8_get (n : Nat) (h : n < 18446744073709551616) : Pl.getN ((Pl.putB n 8).take 8) = n := by
  rw [List.take_of_length_le (by rw [Pl.putB_len]; omega), Pl.getN_putB]
  exact Nat.mod_eq_of_lt (by simpa using h)

set_option maxRecDepth 100000 in
set_option maxHeartbeats 1000000 in
theorem numBytes_walk (n : Nat) (size : Int) (s : List UInt8) (w : World) (hn : n < 18446744073709551616) (hs1 : -9223372036854775808 ≤ size) (hs2 : size ≤ 9223372036854775807) (hl : s.length ≤ 140737488355328) :
    Calls Try.prog 7 #[.int .u64 n, .int .i64 size, .string ⟨s.toArray⟩] w (RetB (fun v _ => v = .bool true) w) := by
  by_cases hlong : 100 < s.length
  · go_enter Try.func7, Try.ntmps7
    go_wp2_with fail
    (with_reducible refine (alive_any _).mono ?_)
    rintro en w1 ⟨v, rfl, rfl, hb1⟩
    go_wp2_with fail
    go_ret
    exact ⟨_, rfl, rfl, hb1⟩
  · have hg8 := put8_get n hn
    have hlen8 : (Pl.putB n 8).length ≤ 8 ∧ 8 ≤ (Pl.putB n 8).length := by rw [Pl.putB_len]; omega
    have HG := Lib.hid hg8; clear hg8
    have HL : Hid ((Pl.putB n 8).length = 8) := Pl.putB_len n 8
    obtain ⟨p8, hp8⟩ : ∃ p, Pl.putB n 8 = p := ⟨_, rfl⟩
    have HP := Lib.hid hp8
    obtain ⟨g, hg⟩ : ∃ g, Pl.getN (s.take 8) = g := ⟨_, rfl⟩
    have HGS := Lib.hid hg; clear hg
    go_enter Try.func7, Try.ntmps7
    go_wp2_with fail
    (with_reducible refine (alive_any _).mono ?_)
    rintro en w1 ⟨v, rfl, rfl, hb1⟩
    go_wp2_with fail
    (with_reducible refine (put_any n size _).mono ?_)
    rintro en w2 ⟨v, rfl, rfl, hb2⟩
    have hb12 := hb1.trans (hb2.mono hb1.size)
    go_wp2_with fail
    (with_reducible refine (rput_any n hn size _).mono ?_)
    rintro en w3 ⟨v, rfl, rfl, hb3⟩
    have hb13 := hb12.trans (hb3.mono hb12.size)
    go_wp2_with fail
    (with_reducible refine (get_any s (by omega) _).mono ?_)
    rintro en w4 ⟨rfl, rfl⟩
    rw [HGS.out]
    go_wp2_with fail
    (with_reducible refine (rget_any s (by omega) _).mono ?_)
    rintro en w4 ⟨rfl, rfl⟩
    rw [HGS.out]
    go_wp2_with fail
    (with_reducible refine (put_any n 8 _).mono ?_)
    rintro en w5 ⟨v, rfl, rfl, hb5⟩
    rw [show putK 8 = 8 from rfl]
    have hb15 := hb13.trans (hb5.mono hb13.size)
    go_wp2_with fail
    (with_reducible refine (get_any p8 (by rw [← HP.out, HL.out]; omega) _).mono ?_)
    rintro en w6 ⟨rfl, rfl⟩
    rw [← HP.out, HG.out]
    go_wp2_with fail
    (with_reducible refine (put_any n 8 _).mono ?_)
    rintro en w7 ⟨v, rfl, rfl, hb7⟩
    rw [show putK 8 = 8 from rfl]
    have hb17 := hb15.trans (hb7.mono hb15.size)
    have hl8 : ((p8.length : Int) != 8) = false := by
      rw [← HP.out, HL.out]; rfl
    by_cases h8 : 8 < s.length
    · go_wp2_with fail
      go_ret
      exact ⟨_, rfl, rfl, hb17⟩
    · go_wp2_with fail
      (with_reducible refine (get_any s (by omega) _).mono ?_)
      rintro en w8 ⟨rfl, rfl⟩
      rw [HGS.out]
      go_wp2_with fail
      (with_reducible refine (put_any g s.length _).mono ?_)
      rintro en w9 ⟨v, rfl, rfl, hb9⟩
      have e1 : Pl.putB g (putK s.length) = s := by
        rw [← HGS.out, show putK (s.length : Int) = s.length by unfold putK; omega, List.take_of_length_le (by omega)]
        exact Pl.putB_getN s
      rw [e1]
      go_wp2_with fail
      go_ret
      exact ⟨_, rfl, rfl, hb17.trans (hb9.mono hb17.size)⟩

set_option maxRecDepth 100000 in
theorem numBytes_lifted (os : Os) (started : os.Started) (H : Type) (enc : TypeId × Value → H) :
    ReturnsInHanded {} Try.checked os 7 .any (Rows.numBytesSpec.pre6 enc Try.prog Try.f7 Rows.numBytesRow.domain false) (Rows.numBytesSpec.post enc Try.prog Try.f7 false true false false) := by
  refine returnsInHanded_of_change_sized (C := Try.checked) own started (by kernel_rfl) Try.func7
    (ChangeSpec.witness6 (enc := enc) (C := Try.checked) false ⟨#[], #[.int .u64 0, .int .i64 0, .string ⟨#[]⟩], []⟩ 8 (by kernel_rfl) (by kernel_rfl) (by kernel_rfl) (by kernel_rfl)) ?_
  intro W base args ds gs before hval0 hW hcnd hsz0 _
  have hval : ∀ (j : Nat) t v, Try.f7.params[j]? = some t → args[j]? = some v → Value.okWide Try.prog W .any base t v := hval0
  have hW' := hW
  obtain ⟨p, q, hA0, hV, rfl, hfz, hnd⟩ := hW
  have hA : DataW.TrodAll enc Try.prog W 0 (fun _ => true) true Try.f7.params.toList args.toList ds p := hA0
  have hsz : (DataW.weightsEach Try.prog (Try.f7.params.toList ++ Rows.numBytesSpec.plain.varTypes Try.prog) (ds ++ gs)).all (· ≤ reachBytes) = true := hsz0
  rw [Try.params7] at hA hval hsz
  obtain ⟨v0, vs0, d0, ds0, p0, q0, hargs, rfl, rfl, h0, r0⟩ := trodAll_cons hA
  obtain ⟨v1, vs1, d1, ds1, p1, q1, rfl, rfl, rfl, h1, r1⟩ := trodAll_cons r0
  obtain ⟨v2, vs2, d2, ds2, p2, q2, rfl, rfl, rfl, h2, r2⟩ := trodAll_cons r1
  obtain ⟨rfl, rfl, rfl⟩ := trodAll_nil r2
  obtain rfl : args = #[v0, v1, v2] := by cases args; simp_all
  obtain ⟨rfl, rfl⟩ := trodVars_none hV
  have k0 := h0
  have lt0 : ∀ x ∈ p0, x.block < W.heap.size := by obtain ⟨m, hm⟩ := k0; exact DataW.trod_lt m _ _ _ hm
  have hz0 : ∀ m ∈ d0.weights Try.prog 36, m ≤ reachBytes := fun m hm => by
    have h1 := List.all_eq_true.1 hsz m (DataW.weights_mem_each (j := 0) rfl rfl m hm)
    simpa using h1
  obtain ⟨x0, rfl, eA0⟩ := open_u64 (hval 0 36 v0 rfl rfl) h0 hz0
  have k1 := h1
  have lt1 : ∀ x ∈ p1, x.block < W.heap.size := by obtain ⟨m, hm⟩ := k1; exact DataW.trod_lt m _ _ _ hm
  have hz1 : ∀ m ∈ d1.weights Try.prog 3, m ≤ reachBytes := fun m hm => by
    have h1 := List.all_eq_true.1 hsz m (DataW.weights_mem_each (j := 1) rfl rfl m hm)
    simpa using h1
  obtain ⟨x1, rfl, eA1, eB1⟩ := open_i64 (hval 1 3 v1 rfl rfl) h1 hz1
  have k2 := h2
  have lt2 : ∀ x ∈ p2, x.block < W.heap.size := by obtain ⟨m, hm⟩ := k2; exact DataW.trod_lt m _ _ _ hm
  have hz2 : ∀ m ∈ d2.weights Try.prog 9, m ≤ reachBytes := fun m hm => by
    have h1 := List.all_eq_true.1 hsz m (DataW.weights_mem_each (j := 2) rfl rfl m hm)
    simpa using h1
  obtain ⟨l2, rfl, eA2⟩ := open_str (hval 2 9 v2 rfl rfl) h2 hz2
  clear hA0 hval0 hsz0
  refine (numBytes_walk x0 x1 l2 W eA0 eA1 eB1 (Nat.le_trans eA2 reach_le)).mono fun e W' ⟨v, he, hv, bel⟩ => ?_
  subst he hv
  exact ⟨_, rfl, _, _, _, [], _, [], hW', trodAll_mk1 (shut_bool Try.underlying4 _), (trodAll_cons_mk (Below.trod laidOut (by kernel_rfl) (of_decide_eq_true (by kernel_rfl)) k0 bel lt0) (trodAll_cons_mk (Below.trod laidOut (by kernel_rfl) (of_decide_eq_true (by kernel_rfl)) k1 bel lt1) (trodAll_cons_mk (Below.trod laidOut (by kernel_rfl) (of_decide_eq_true (by kernel_rfl)) k2 bel lt2) trodAll_mk0))), rfl, bel.frame _, fun h => by cases h⟩

theorem numBytes_holds : Rows.NumBytesSaid :=
  OpenClaim.holds_of_wide 7 Try.f7 rfl rfl rfl rfl rfl rfl rfl ⟨rfl, rfl, rfl, rfl, rfl⟩ rfl rfl rfl rfl rfl (by kernel_rfl) Try.func7 (by kernel_rfl)
    (of_decide_eq_true (by kernel_rfl)) (by unfold Func.isWrapper; first | (rw [if_pos (by decide +kernel)]; kernel_rfl) | (rw [if_neg (by decide +kernel)]; exact ⟨rfl, rfl⟩))
    (fun os started H enc _ => numBytes_lifted os started H enc)
#print axioms numBytes_holds
end Go.Proofs.Ytplhmhclcfclhaa
