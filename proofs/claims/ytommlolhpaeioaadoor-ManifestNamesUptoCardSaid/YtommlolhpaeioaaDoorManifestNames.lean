/- ManifestNames holds, where what it reads is of bulk at most 1048576: each chunk's name is among the names, and no other one; they rise, and don't hang on where they stand. Condition: the bulk. -/
import Derived.Test.YtommlolhpaeioaaDoorLaid
import Derived.Test.YtommlolhpaeioaaDoorTie
import Derived.Test.YtommlolhpaeioaaDoorCards
import Derived.Deep.DeepHandedRow
import Derived.Deep.DeepWitnessRowRef
import Derived.Lib.LaidTab
import Derived.Test.YtommlolhpaeioaaDoorNmW
namespace Go.Proofs.YtommlolhpaeioaaDoor
open Go.ChangeShapes Go.WideShapes Go.ChangeAt Go.RowKit
set_option linter.unusedVariables false
-- FRAME
set_option maxRecDepth 100000 in
theorem manifestNames_reads (os : Os) {H : Type} (enc : TypeId × Value → H) : ∃ places, DataW.whole enc Tryd.prog ((World.doorLaid Tryd.prog 100 os).forCall (fun _ _ => 0) ⟨#[], #[snapW], []⟩).memory Tryd.f6.params.toList Rows.manifestNamesSpec.vars false (#[snapW] : Array Value).toList 8 = some ([.agg [.lit (.string []), .lit (.int .i64 0), .lit (.int .i64 0), .lit (.int .u64 0), .lit (.int .i64 0), .lit (.int .i64 0), .agg [.nil, .nil, .nil], .agg (List.replicate 32 (.lit (.int .u8 0)))]], [], places) :=
  ⟨[], by kernel_rfl⟩
set_option maxRecDepth 100000 in
theorem manifestNames_lifted (os : Os) (started : os.Started) (H : Type) (enc : TypeId × Value → H) (F : Stop.Interp) :
    ReturnsInHanded {} Tryd.checked os 6 .any ((Rows.OpenSpec.upto Rows.manifestNamesSpec).preRow enc Tryd.prog Tryd.f6 Rows.manifestNamesUptoRow.domain false Rows.manifestNamesUptoRow.laid) (((Rows.OpenSpec.upto Rows.manifestNamesSpec).at F).post enc Tryd.prog Tryd.f6 false true false false) := by
  obtain ⟨places, hx⟩ := manifestNames_reads os enc
  refine returnsInHanded_of_row (C := Tryd.checked) (s := Rows.OpenSpec.upto Rows.manifestNamesSpec) own started (by kernel_rfl) Tryd.func6
    (witness_row_at (enc := enc) (C := Tryd.checked) false (World.doorLaid Tryd.prog 100 os) #[snapW] rfl (by kernel_rfl) (by kernel_rfl) (by kernel_rfl)
      (OpenSpec.preRow_of_cond 8 hx (by kernel_rfl) (fun k hk => by cases hk; kernel_rfl) (by kernel_rfl) (door_met3 os _))) ?_
  intro W base args ds gs before hval0 hW hcnd hbk0 hsz0 hL _ _
  have hvars := vtab_of3 hL
  have hbk : Rows.uptoBulkAll (ds ++ gs) ≤ 1048576 := of_decide_eq_true (hbk0 _ rfl)
  have hval : ∀ (j : Nat) t v, Tryd.f6.params[j]? = some t → args[j]? = some v → Value.okWide Tryd.prog W .any base t v := hval0
  have hW' := hW
  obtain ⟨p, q, hA0, hV, rfl, hfz, hnd⟩ := hW
  have hA : DataW.TrodAll enc Tryd.prog W 0 (fun _ => true) true Tryd.f6.params.toList args.toList ds p := hA0
  have hsz : (DataW.weightsEach Tryd.prog (Tryd.f6.params.toList ++ Rows.manifestNamesSpec.plain.varTypes Tryd.prog) (ds ++ gs)).all (· ≤ reachBytes) = true := hsz0
  rw [Tryd.params6] at hA hval hsz
  obtain ⟨v0, vs0, d0, ds0, p0, q0, hargs, rfl, rfl, h0, r0⟩ := trodAll_cons hA
  obtain ⟨rfl, rfl, rfl⟩ := trodAll_nil r0
  obtain rfl : args = #[v0] := by cases args; simp_all
  obtain ⟨rfl, rfl⟩ := trodVars_none hV
  simp only [List.cons_append, List.nil_append, Rows.uptoBulkAll] at hbk
  have k0 := h0
  have lt0 : ∀ x ∈ p0, x.block < W.heap.size := by obtain ⟨m, hm⟩ := k0; exact DataW.trod_lt m _ _ _ hm
  have hz0 : ∀ m ∈ d0.weights Tryd.prog 28, m ≤ reachBytes := fun m hm => by
    have h1 := List.all_eq_true.1 hsz m (DataW.weights_mem_each (j := 0) rfl rfl m hm)
    simpa using h1
  obtain ⟨s0, X0, rfl, eA0, eB0, eC0, eD0⟩ := open_snap (hval 0 28 v0 rfl rfl) h0 hz0
  clear hA0 hval0 hsz0 hbk0
  refine (manifestNames_walk s0 X0 W eA0 eB0 eC0 (by unfold Pl.totN; omega) hvars).mono fun e W' ⟨v, he, hv, bel⟩ => ?_
  subst he hv
  exact ⟨_, rfl, _, _, _, [], _, [], hW', trodAll_mk1 (shut_bool Tryd.underlying4 _), (trodAll_cons_mk (Below.trod laidOut (by kernel_rfl) (of_decide_eq_true (by kernel_rfl)) k0 bel lt0) trodAll_mk0), rfl, bel.frame _, fun h => by cases h⟩

theorem manifestNames_row : Rows.ManifestNamesUptoSaid :=
  OpenClaim.holds_of_cond 6 Tryd.f6 rfl rfl rfl rfl rfl rfl rfl ⟨rfl, rfl, rfl, rfl, rfl⟩ rfl rfl rfl rfl rfl (by kernel_rfl) Tryd.func6 (by kernel_rfl)
    (of_decide_eq_true (by kernel_rfl)) (by unfold Func.isWrapper; first | (rw [if_pos (by decide +kernel)]; kernel_rfl) | (rw [if_neg (by decide +kernel)]; exact ⟨rfl, rfl⟩))
    (fun os started H enc _ F => by rw [OpenClaim.pre_eq_preRow]; exact manifestNames_lifted os started H enc F)

theorem manifestNames_holds : Rows.ManifestNamesUptoCardSaid :=
  Claim7.holds_tied_plain_at .later [] [.data, .data, .data] true (true, "8c7f5076b4464b0d47fcd8bd876a472c897cfef33dbc23ff4e6154515a454f93") true
    manifestNames_row (fun _ h => by cases h) (by kernel_rfl) (fun _ h => by cases h) manifestNamesUpto_row_tie rfl ⟨rfl, rfl⟩ (by kernel_rfl) rfl
    (fun f fn hf hfn => by
      obtain rfl : f = 6 := Option.some.inj ((show Tryd.prog.funcNamed "hibernacle/hibernaclelaw41.ManifestNames" = some 6 by kernel_rfl).symm.trans hf) |>.symm
      obtain rfl : fn = Tryd.f6 := (Option.some.inj (Tryd.func6.symm.trans hfn)).symm
      exact ⟨by kernel_rfl, fun j t ht => by
        rw [Tryd.params6] at ht
        rcases j with _ | _ | _ | _ | j
        all_goals first
          | (simp at ht; done)
          | (have h3 := Option.some.inj ht; subst h3; exact (show Tryd.prog.wantsStandIn _ = false by kernel_rfl))⟩)
    (by kernel_rfl)
#print axioms manifestNames_holds
end Go.Proofs.YtommlolhpaeioaaDoor
