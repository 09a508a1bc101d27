/- NumRows: for every list of texts the statement returns true, and nothing that was there has turned. No condition. -/
import Derived.Test.YtplhmhclcfclhaaNumAl
import Derived.Test.YtplhmhclcfclhaaNumLaw
import Derived.Test.YtplhmhclcfclhaaOpen
namespace Go.Proofs.Ytplhmhclcfclhaa
open Go.ChangeShapes Go.WideShapes Go.ChangeAt Go.RowKit
set_option linter.unusedVariables false

set_option maxRecDepth 100000 in
set_option maxHeartbeats 1000000 in
theorem numRows_walk (A : Option Addr) (n c : Nat) (l : List (List UInt8)) (w : World) (ha : Rd w 1 A n (strs l)) (hn : n ≤ 140737488355328) (hs : ∀ s ∈ l, s.length ≤ 140737488355328) (_hnil : A = none → c = 0) :
    Calls Try.prog 3 #[.slice A n c] w (RetB (fun v _ => v = .bool true) w) := by
  by_cases hlong : 5000 < sumLen l
  · have hd : decide (5000 < sumLen l) = true := by simpa using hlong
    have HS := Lib.hid hs; clear hs
    go_enter Try.func3, Try.ntmps3
    go_wp2_with fail
    (with_reducible refine (alive_any _).mono ?_)
    rintro en w1 ⟨v, rfl, rfl, hb1⟩
    go_wp2_with fail
    (with_reducible refine (long_any A n c l _ (ha.below hb1) (by omega) HS.out).mono ?_)
    rintro en w2 ⟨rfl, rfl⟩
    rw [hd]
    go_wp2_with fail
    go_ret
    exact ⟨_, rfl, rfl, hb1⟩
  · have hd : decide (5000 < sumLen l) = false := by simpa using hlong
    have hrt := Pl.texts_rowB l (fun s hs => by have := sumLen_mem l s hs; omega)
    have hrl := rowB_le l
    have HS := Lib.hid (And.intro hs hrt); clear hs hrt
    go_enter Try.func3, Try.ntmps3
    go_wp2_with fail
    (with_reducible refine (alive_any _).mono ?_)
    rintro en w1 ⟨v, rfl, rfl, hb1⟩
    go_wp2_with fail
    (with_reducible refine (long_any A n c l _ (ha.below hb1) (by omega) HS.out.1).mono ?_)
    rintro en w2 ⟨rfl, rfl⟩
    rw [hd]
    go_wp2_with fail
    (with_reducible refine (row_any A n c l _ (ha.below hb1) (by omega) (by omega)).mono ?_)
    rintro en w3 ⟨v, rfl, rfl, hb3⟩
    have hb13 := hb1.trans (hb3.mono hb1.size)
    go_wp2_with fail
    (with_reducible refine (texts_at _ _ _ HS.out.2 _ (by omega)).mono ?_)
    rintro en w4 ⟨A4, c4, rfl, hr4, -, hb4⟩
    have hb14 := hb13.trans (hb4.mono hb13.size)
    go_wp2_with fail
    (with_reducible refine (rrow_any A n c l _ (ha.below hb14) (by omega) (by omega)).mono ?_)
    rintro en w5 ⟨v, rfl, rfl, hb5⟩
    have hb15 := hb14.trans (hb5.mono hb14.size)
    go_wp2_with fail
    (with_reducible refine (same_any A4 A _ n c4 c l l _ (hr4.below hb5) (ha.below hb15) (by have := ha.len1; rw [strs_len] at this; omega) (by omega)).mono ?_)
    rintro en w6 ⟨rfl, q, rfl⟩
    rw [show decide (l = l) = true by simp]
    go_wp2_with fail
    go_ret
    exact ⟨_, rfl, rfl, below_drewN hb15 q⟩

set_option maxRecDepth 100000 in
theorem numRows_lifted (os : Os) (started : os.Started) (H : Type) (enc : TypeId × Value → H) :
    ReturnsInHanded {} Try.checked os 3 .any (Rows.numRowsSpec.pre6 enc Try.prog Try.f3 Rows.numRowsRow.domain false) (Rows.numRowsSpec.post enc Try.prog Try.f3 false true false false) := by
  refine returnsInHanded_of_change_sized (C := Try.checked) own started (by kernel_rfl) Try.func3
    (ChangeSpec.witness6 (enc := enc) (C := Try.checked) false ⟨#[], #[.slice none 0 0], []⟩ 8 (by kernel_rfl) (by kernel_rfl) (by kernel_rfl) (by kernel_rfl)) ?_
  intro W base args ds gs before hval0 hW hcnd hsz0 _
  have hval : ∀ (j : Nat) t v, Try.f3.params[j]? = some t → args[j]? = some v → Value.okWide Try.prog W .any base t v := hval0
  have hW' := hW
  obtain ⟨p, q, hA0, hV, rfl, hfz, hnd⟩ := hW
  have hA : DataW.TrodAll enc Try.prog W 0 (fun _ => true) true Try.f3.params.toList args.toList ds p := hA0
  have hsz : (DataW.weightsEach Try.prog (Try.f3.params.toList ++ Rows.numRowsSpec.plain.varTypes Try.prog) (ds ++ gs)).all (· ≤ reachBytes) = true := hsz0
  rw [Try.params3] at hA hval hsz
  obtain ⟨v0, vs0, d0, ds0, p0, q0, hargs, rfl, rfl, h0, r0⟩ := trodAll_cons hA
  obtain ⟨rfl, rfl, rfl⟩ := trodAll_nil r0
  obtain rfl : args = #[v0] := by cases args; simp_all
  obtain ⟨rfl, rfl⟩ := trodVars_none hV
  have k0 := h0
  have lt0 : ∀ x ∈ p0, x.block < W.heap.size := by obtain ⟨m, hm⟩ := k0; exact DataW.trod_lt m _ _ _ hm
  have hz0 : ∀ m ∈ d0.weights Try.prog 22, m ≤ reachBytes := fun m hm => by
    have h1 := List.all_eq_true.1 hsz m (DataW.weights_mem_each (j := 0) rfl rfl m hm)
    simpa using h1
  obtain ⟨A0, n0, c0, l0, rfl, eA0, eB0, eC0, eD0, eE0, eF0⟩ := open_strs (hval 0 22 v0 rfl rfl) h0 hz0
  clear hA0 hval0 hsz0
  refine (numRows_walk A0 n0 c0 l0 W eA0 (Nat.le_trans eD0 reach_le) (fun s hs => Nat.le_trans (eE0 s hs) reach_le) eF0).mono fun e W' ⟨v, he, hv, bel⟩ => ?_
  subst he hv
  exact ⟨_, rfl, _, _, _, [], _, [], hW', trodAll_mk1 (shut_bool Try.underlying4 _), (trodAll_cons_mk (Below.trod laidOut (by kernel_rfl) (of_decide_eq_true (by kernel_rfl)) k0 bel lt0) trodAll_mk0), rfl, bel.frame _, fun h => by cases h⟩

theorem numRows_holds : Rows.NumRowsSaid :=
  OpenClaim.holds_of_wide 3 Try.f3 rfl rfl rfl rfl rfl rfl rfl ⟨rfl, rfl, rfl, rfl, rfl⟩ rfl rfl rfl rfl rfl (by kernel_rfl) Try.func3 (by kernel_rfl)
    (of_decide_eq_true (by kernel_rfl)) (by unfold Func.isWrapper; first | (rw [if_pos (by decide +kernel)]; kernel_rfl) | (rw [if_neg (by decide +kernel)]; exact ⟨rfl, rfl⟩))
    (fun os started H enc _ => numRows_lifted os started H enc)
#print axioms numRows_holds
end Go.Proofs.Ytplhmhclcfclhaa
