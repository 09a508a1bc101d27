/- How a statement's argument of words is opened. No condition. -/
import Derived.Test.YtmmnkoeajdeldaaGreatDoorOpen
import Derived.Test.YtmmnkoeajdeldaaGreatDoorAsS
namespace Go.Proofs.YtmmnkoeajdeldaaGreatDoor
open Go.ChangeShapes Go.WideShapes Go.ChangeAt Go.RowKit Go.Deep
section
variable {H : Type} {enc : TypeId × Value → H} {W : World} {base : Nat} {sp : Nat → Bool} {held : Bool}
def WordCell (cs : List Value) : Prop := ∃ n : Nat, cs = [.int .u32 (n : Int)] ∧ n < 4294967296
set_option maxRecDepth 100000 in
theorem read_word (fuel : Nat) (cs : List Value) (x : DataW H × List MemPlace) (h : DataW.trod enc Tryz.prog W base sp held fuel 24 cs = some x) (_hz : ∀ m ∈ x.1.weights Tryz.prog 24, m ≤ reachBytes) : WordCell cs := by
  obtain ⟨n, rfl, rfl, hw⟩ := DataW.trod_int Tryz.underlying24 h
  obtain ⟨h1, h2⟩ := wf_bd hw
  have e1 : IntKind.u32.min = 0 := by decide
  have e2 : IntKind.u32.max = 4294967295 := by decide
  obtain ⟨m, rfl⟩ := Int.eq_ofNat_of_zero_le (show 0 ≤ n by omega)
  exact ⟨m, rfl, by omega⟩
set_option maxRecDepth 100000 in
theorem open_words {v : Value} {d : DataW H} {p : List MemPlace} {r : Reach} {b0 : Nat} (hv : Value.okWide Tryz.prog W r b0 23 v) (h : DataW.Trod enc Tryz.prog W base sp held 23 v d p)
    (hz : ∀ m ∈ d.weights Tryz.prog 23, m ≤ reachBytes) :
    ∃ (A : Option Addr) (n c : Nat) (l : List Nat), v = .slice A n c ∧ (l.length = n ∧ Rd W 1 A n (w32s l) ∧ n ≤ 140737488355328) ∧ ∀ x ∈ l, x < 4294967296 := by
  obtain ⟨a0, len, cap, rfl⟩ := okWide_slice Tryz.underlying23 hv
  obtain ⟨fuel, hf⟩ := h
  obtain ⟨A, n, c, L, hcs, hl, hk, hr, hc, hc', hb, -, hL⟩ := open_elems Tryz.underlying23 (k := 1) (by kernel_rfl) (by omega) WordCell read_word hf hz
  obtain ⟨Y, rfl, hY⟩ := list_choose (fun q : Nat => [Value.int .u32 (q : Int)]) (fun q => q < 4294967296) L hL
  have e := flatten_one (fun q : Nat => Value.int .u32 (q : Int)) Y
  rw [e] at hr
  simp [Value.cells] at hcs
  obtain ⟨rfl, rfl, rfl⟩ := hcs
  have hb' : Tryz.prog.bytesOf 24 = 4 := by kernel_rfl
  rw [hb'] at hb
  have hR := reach_le
  rw [List.length_map] at hl
  exact ⟨a0, len, cap, Y, rfl, ⟨hl, hr, by omega⟩, hY⟩
end
end Go.Proofs.YtmmnkoeajdeldaaGreatDoor
