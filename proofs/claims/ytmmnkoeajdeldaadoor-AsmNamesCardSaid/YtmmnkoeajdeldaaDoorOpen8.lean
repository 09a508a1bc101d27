/- How a statement's argument of one byte is opened. No condition. -/
import Derived.Test.YtmmnkoeajdeldaaDoorOpen
namespace Go.Proofs.YtmmnkoeajdeldaaDoor
open Go.ChangeShapes Go.WideShapes Go.ChangeAt Go.RowKit
section
variable {H : Type} {enc : TypeId × Value → H} {W : World} {base : Nat} {sp : Nat → Bool} {held : Bool}
set_option maxRecDepth 100000 in
theorem open_u8 {v : Value} {d : DataW H} {p : List MemPlace} {r : Reach} {b0 : Nat} (hv : Value.okWide Tryd.prog W r b0 5 v) (h : DataW.Trod enc Tryd.prog W base sp held 5 v d p)
    (_hz : ∀ m ∈ d.weights Tryd.prog 5, m ≤ reachBytes) : ∃ x : Nat, v = .int .u8 x ∧ x < 256 := by
  obtain ⟨n, rfl, rfl, rfl, hw⟩ := open_int Tryd.underlying5 hv h
  obtain ⟨h1, h2⟩ := wf_bd hw
  have e1 : IntKind.u8.min = 0 := by decide
  have e2 : IntKind.u8.max = 255 := by decide
  obtain ⟨x, rfl⟩ := Int.eq_ofNat_of_zero_le (show 0 ≤ n by omega)
  exact ⟨x, rfl, by omega⟩
end
end Go.Proofs.YtmmnkoeajdeldaaDoor
