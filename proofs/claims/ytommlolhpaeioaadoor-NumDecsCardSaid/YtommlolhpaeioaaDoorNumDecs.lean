/- NumDecs holds: of any number, and any text, the decimal text, and the number. No condition. -/
import Derived.Test.YtommlolhpaeioaaDoorLaid
import Derived.Test.YtommlolhpaeioaaDoorTie
import Derived.Test.YtommlolhpaeioaaDoorCards
import Derived.Test.YtommlolhpaeioaaDoorDecR
import Derived.Test.YtommlolhpaeioaaDoorNumAl
namespace Go.Proofs.YtommlolhpaeioaaDoor
open Go.ChangeShapes Go.WideShapes Go.ChangeAt Go.RowKit
set_option linter.unusedVariables false
set_option linter.unusedSimpArgs false
set_option maxRecDepth 100000 in
set_option maxHeartbeats 2000000 in
theorem numDecs_walk (n : Int) (s : List UInt8) (w : World) (h0 : -9223372036854775808 ≤ n) (h1 : n ≤ 9223372036854775807) (hs : s.length ≤ 140737488355328) (hv : VNum w) :
    Calls Tryd.prog 4 #[.int .i64 n, .string ⟨s.toArray⟩] w (RetB (fun v _ => v = .bool true) w) := by
  have hI : Pl.I64 n := ⟨h0, h1⟩
  have hqn := Pl.intQ_itoa hI
  obtain ⟨t, ht⟩ : ∃ t, Lib.itoa n = t := ⟨_, rfl⟩
  have htl : t.length ≤ 20 := by rw [← ht]; exact (Pl.itoa_len hI).2
  have hd := fun w h => dec_any n w hI h
  have hrd := fun w => rdec_any n w hI
  rw [ht] at hd hrd hqn
  have hi2 := fun w h => int_any t w (by omega) h
  rw [hqn] at hi2
  have HD := Lib.hid (And.intro hd (And.intro hrd hi2)); clear hd hrd hi2 hqn ht hI
  obtain ⟨Q, hQ⟩ : ∃ Q, Pl.intQ s = Q := ⟨_, rfl⟩
  have hi := fun hs w h => int_any s w hs h
  have hri := fun hs w => rint_any s w hs
  rw [hQ] at hi hri
  have HI := Lib.hid (And.intro hi (And.intro hri hQ)); clear hi hri hQ
  by_cases hlong : 2000 < s.length
  · have hl : decide ((2000 : Int) < (s.length : Int)) = true := decide_eq_true (by omega)
    go_enter Tryd.func4, Tryd.ntmps4
    go_wp2_with fail
    (with_reducible refine (alive_any _).mono ?_)
    rintro e wa ⟨v, rfl, rfl, hba⟩
    go_wp2_with fail
    go_ret
    exact ⟨_, rfl, rfl, hba⟩
  have hl : decide ((2000 : Int) < (s.length : Int)) = false := decide_eq_false (by omega)
  go_enter Tryd.func4, Tryd.ntmps4
  go_wp2_with fail
  (with_reducible refine (alive_any _).mono ?_)
  rintro e w1 ⟨v, rfl, rfl, hb⟩
  have hv1 := hv.below hb
  go_wp2_with fail
  (with_reducible refine (HI.out.1 (by omega) _ hv1).mono ?_)
  rintro e w2 ⟨v, rfl, rfl, hb2⟩
  replace hb := hb.trans (hb2.mono hb.size)
  have hv2 := hv.below hb
  unfold intV
  go_wp2_with fail
  (with_reducible refine (HI.out.2.1 (by omega) _).mono ?_)
  rintro e w3 ⟨v, rfl, rfl, hb3⟩
  replace hb := hb.trans (hb3.mono hb.size)
  have hv3 := hv.below hb
  unfold intV
  go_wp2_with fail
  (with_reducible refine (HD.out.1 _ hv3.tab).mono ?_)
  rintro e w4 ⟨v, rfl, rfl, hb4⟩
  replace hb := hb.trans (hb4.mono hb.size)
  have hv4 := hv.below hb
  go_wp2_with fail
  (with_reducible refine (HD.out.2.2 _ hv4).mono ?_)
  rintro e w5 ⟨v, rfl, rfl, hb5⟩
  replace hb := hb.trans (hb5.mono hb.size)
  have hv5 := hv.below hb
  unfold intV
  go_wp2_with fail
  (with_reducible refine (HD.out.1 _ hv5.tab).mono ?_)
  rintro e w6 ⟨v, rfl, rfl, hb6⟩
  replace hb := hb.trans (hb6.mono hb.size)
  have hv6 := hv.below hb
  go_wp2_with fail
  (with_reducible refine (HD.out.2.1 _).mono ?_)
  rintro e w7 ⟨v, rfl, rfl, hb7⟩
  replace hb := hb.trans (hb7.mono hb.size)
  have hv7 := hv.below hb
  cases Q with
  | none =>
    go_wp2_with fail
    go_ret
    exact ⟨_, rfl, rfl, hb⟩
  | some m =>
    obtain ⟨hm1, hm2⟩ := Pl.intQ_some HI.out.2.2
    have hd := fun w h => dec_any m w hm2 h
    rw [hm1] at hd
    have HM := Lib.hid hd; clear hd hm1 hm2
    go_wp2_with fail
    (with_reducible refine (HM.out _ hv7.tab).mono ?_)
    rintro e w8 ⟨v, rfl, rfl, hb8⟩
    replace hb := hb.trans (hb8.mono hb.size)
    go_wp2_with fail
    go_ret
    exact ⟨_, rfl, rfl, hb⟩
-- FRAME
set_option maxRecDepth 100000 in
theorem numDecs_lifted (os : Os) (started : os.Started) (H : Type) (enc : TypeId × Value → H) :
    ReturnsInHanded {} Tryd.checked os 4 .any (fun w args => (Rows.numDecsSpec.pre enc Tryd.prog Tryd.f4 [] false w args ∧ laidMetH Tryd.prog tabs5 w) ∧ sizedMet enc Tryd.prog Tryd.f4 (OpenSpec.ofChange Rows.numDecsSpec) false w args) (Rows.numDecsSpec.post enc Tryd.prog Tryd.f4 false true false false) := by
  refine returnsInHanded_of_change_and (C := Tryd.checked) (X := fun w _ => laidMetH Tryd.prog tabs5 w) (fun _ _ _ hh h => h.of_heap hh) own started (by kernel_rfl) Tryd.func4
    (ChangeSpec.witness_shaped (enc := enc) (C := Tryd.checked) (os := os) (X := fun w _ => laidMetH Tryd.prog tabs5 w) false (World.doorLaid Tryd.prog 100 os) #[.int .i64 0, .string ⟨#[]⟩] 8 rfl (World.shaped_of_RefB (by kernel_rfl) (by kernel_rfl)) (by kernel_rfl) (by kernel_rfl) (by kernel_rfl) (door_met5 os _)) ?_
  intro W base args ds gs before hval0 hW hcnd hsz0 hL _
  have hvars := vnum_of5 hL
  have hval : ∀ (j : Nat) t v, Tryd.f4.params[j]? = some t → args[j]? = some v → Value.okWide Tryd.prog W .any base t v := hval0
  have hW' := hW
  obtain ⟨p, q, hA0, hV, rfl, hfz, hnd⟩ := hW
  have hA : DataW.TrodAll enc Tryd.prog W 0 (fun _ => true) true Tryd.f4.params.toList args.toList ds p := hA0
  have hsz : (DataW.weightsEach Tryd.prog (Tryd.f4.params.toList ++ Rows.numDecsSpec.plain.varTypes Tryd.prog) (ds ++ gs)).all (· ≤ reachBytes) = true := hsz0
  rw [Tryd.params4] at hA hval hsz
  obtain ⟨v0, vs0, d0, ds0, p0, q0, hargs, rfl, rfl, h0, r0⟩ := trodAll_cons hA
  obtain ⟨v1, vs1, d1, ds1, p1, q1, rfl, rfl, rfl, h1, r1⟩ := trodAll_cons r0
  obtain ⟨rfl, rfl, rfl⟩ := trodAll_nil r1
  obtain rfl : args = #[v0, v1] := by cases args; simp_all
  obtain ⟨rfl, rfl⟩ := trodVars_none hV
  have k0 := h0
  have lt0 : ∀ x ∈ p0, x.block < W.heap.size := by obtain ⟨m, hm⟩ := k0; exact DataW.trod_lt m _ _ _ hm
  have hz0 : ∀ m ∈ d0.weights Tryd.prog 2, m ≤ reachBytes := fun m hm => by
    have h1 := List.all_eq_true.1 hsz m (DataW.weights_mem_each (j := 0) rfl rfl m hm)
    simpa using h1
  obtain ⟨x0, rfl, eA0, eB0⟩ := open_l64 (hval 0 2 v0 rfl rfl) h0 hz0
  have k1 := h1
  have lt1 : ∀ x ∈ p1, x.block < W.heap.size := by obtain ⟨m, hm⟩ := k1; exact DataW.trod_lt m _ _ _ hm
  have hz1 : ∀ m ∈ d1.weights Tryd.prog 9, m ≤ reachBytes := fun m hm => by
    have h1 := List.all_eq_true.1 hsz m (DataW.weights_mem_each (j := 1) rfl rfl m hm)
    simpa using h1
  obtain ⟨l1, rfl, eA1⟩ := open_str (hval 1 9 v1 rfl rfl) h1 hz1
  clear hA0 hval0 hsz0
  refine (numDecs_walk x0 l1 W eA0 eB0 (Nat.le_trans eA1 reach_le) hvars).mono fun e W' ⟨v, he, hv, bel⟩ => ?_
  subst he hv
  exact ⟨_, rfl, _, _, _, [], _, [], hW', trodAll_mk1 (shut_bool Tryd.underlying4 _), (trodAll_cons_mk (Below.trod laidOut (by kernel_rfl) (of_decide_eq_true (by kernel_rfl)) k0 bel lt0) (trodAll_cons_mk (Below.trod laidOut (by kernel_rfl) (of_decide_eq_true (by kernel_rfl)) k1 bel lt1) trodAll_mk0)), rfl, bel.frame _, fun h => by cases h⟩

theorem numDecs_row : Rows.NumDecsSaid :=
  OpenClaim.holds_of_wide 4 Tryd.f4 rfl rfl rfl rfl rfl rfl rfl ⟨rfl, rfl, rfl, rfl, rfl⟩ rfl rfl rfl rfl rfl (by kernel_rfl) Tryd.func4 (by kernel_rfl)
    (of_decide_eq_true (by kernel_rfl)) (by unfold Func.isWrapper; first | (rw [if_pos (by decide +kernel)]; kernel_rfl) | (rw [if_neg (by decide +kernel)]; exact ⟨rfl, rfl⟩))
    (fun os started H enc _ => numDecs_lifted os started H enc)

theorem numDecs_holds : Rows.NumDecsCardSaid :=
  Claim7.holds_tied_plain_at .later [] [.data, .data, .data, .sentinel, .sentinel] true (true, "8c7f5076b4464b0d47fcd8bd876a472c897cfef33dbc23ff4e6154515a454f93") true
    numDecs_row (fun _ h => by cases h) (by kernel_rfl) (fun _ h => by cases h) numDecs_row_tie rfl ⟨rfl, rfl⟩ (by kernel_rfl) rfl
    (fun f fn hf hfn => by
      obtain rfl : f = 4 := Option.some.inj ((show Tryd.prog.funcNamed "hibernacle/hibernaclelaw01.NumDecs" = some 4 by kernel_rfl).symm.trans hf) |>.symm
      obtain rfl : fn = Tryd.f4 := (Option.some.inj (Tryd.func4.symm.trans hfn)).symm
      exact ⟨by kernel_rfl, fun j t ht => by
        rw [Tryd.params4] at ht
        rcases j with _ | _ | _ | _ | j
        all_goals first
          | (simp at ht; done)
          | (have h3 := Option.some.inj ht; subst h3; exact (show Tryd.prog.wantsStandIn _ = false by kernel_rfl))⟩)
    (by kernel_rfl)
#print axioms numDecs_holds
end Go.Proofs.YtommlolhpaeioaaDoor
