/- The walk of policy.units: what stands behind a policy's numbers. -/
import Derived.Test.YtmncgnmgdkdhaaaGreatDoorPolW1
import Derived.Test.YtmncgnmgdkdhaaaGreatDoorPolTx
namespace Go.Proofs.YtmncgnmgdkdhaaaGreatDoor
open Go.RowKit
set_option linter.unusedVariables false
set_option linter.unusedSimpArgs false
def unitL : List UInt8 := [100, 119, 109, 121]
def unitC : List Value := unitL.map fun c => .string ⟨#[c]⟩
set_option maxRecDepth 100000 in
theorem units_any (w : World) : Calls Tryz.prog 20 #[] w (RetB (fun v _ => v = .agg #[.string ⟨#[100]⟩, .string ⟨#[119]⟩, .string ⟨#[109]⟩, .string ⟨#[121]⟩]) w) := by
  go_enter Tryz.func20, Tryz.ntmps20
  go_wp2_with fail
  refine bodyPost_ret (v := .agg #[.string ⟨#[100]⟩, .string ⟨#[119]⟩, .string ⟨#[109]⟩, .string ⟨#[121]⟩]) (by simp [results, Tryz.results20, go_sem]) rfl ⟨_, rfl, rfl, ?_⟩
  repeat' (first | exact Below.refl _ _ | (refine Below.alloc ?_ (by simp) _) | (refine Below.setCell ?_ (by simp) _))
end Go.Proofs.YtmncgnmgdkdhaaaGreatDoor
