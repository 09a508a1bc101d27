/- How a program (api.Exe) that came in is opened. -/
import Derived.Test.YtmmnkoeajdeldaaGreatDoorOpen
import Derived.Test.YtmmnkoeajdeldaaGreatDoorAsLi
import Derived.Lib.SmallJoins
namespace Go.Proofs.YtmmnkoeajdeldaaGreatDoor
open Go.ChangeShapes Go.WideShapes Go.ChangeAt Go.RowKit Go.Deep Go.Joins

section
variable {H : Type} {enc : TypeId × Value → H} {W : World} {base : Nat} {sp : Nat → Bool} {held : Bool}

def XWord (cs : List Value) : Prop := ∃ n : Nat, cs = [.int .u32 (n : Int)] ∧ n < 4294967296
theorem xword_bd {n : Int} (h : (Lit.int .u32 n).wf = true) : 0 ≤ n ∧ n < 4294967296 := by
  obtain ⟨h1, h2⟩ := wf_bd h
  have e1 : IntKind.u32.min = 0 := by decide
  have e2 : IntKind.u32.max = 4294967295 := by decide
  omega
set_option maxRecDepth 100000 in
theorem read_xword (fuel : Nat) (cs : List Value) (x : DataW H × List MemPlace) (h : DataW.trod enc Tryz.prog W base sp held fuel 24 cs = some x) (_hz : ∀ m ∈ x.1.weights Tryz.prog 24, m ≤ reachBytes) : XWord cs := by
  obtain ⟨n, rfl, rfl, hw⟩ := DataW.trod_int Tryz.underlying24 h
  obtain ⟨h1, h2⟩ := xword_bd hw
  obtain ⟨m, rfl⟩ := Int.eq_ofNat_of_zero_le h1
  exact ⟨m, rfl, by omega⟩

set_option maxRecDepth 100000 in
theorem open_xe {v : Value} {d : DataW H} {p : List MemPlace} {r : Reach} {b0 : Nat} (hv : Value.okWide Tryz.prog W r b0 26 v) (h : DataW.Trod enc Tryz.prog W base sp held 26 v d p)
    (hz : ∀ m ∈ d.weights Tryz.prog 26, m ≤ reachBytes) :
    ∃ (A : Option Addr) (c : Nat) (x : Pl.Exe), v = xeV A c x ∧ Rd W 1 A x.text.length (w32s x.text) ∧ XeOk x := by
  obtain ⟨v0, v1, v2, v3, y0, y1, y2, y3, n, rfl, rfl, -, h0, h1, h2, h3⟩ := open_agg4 Tryz.underlying26 (by kernel_rfl) (by kernel_rfl) hv h
  simp only at h0 h1 h2 h3
  have hz' : (∀ m ∈ y0.1.weights Tryz.prog 23, m ≤ reachBytes) ∧ (∀ m ∈ y1.1.weights Tryz.prog 9, m ≤ reachBytes) := by
    simp only [DataW.weights, Tryz.underlying26] at hz
    refine ⟨fun m hm => hz m ?_, fun m hm => hz m ?_⟩
    · exact DataW.weights_mem_each (j := 0) rfl rfl m hm
    · exact DataW.weights_mem_each (j := 1) rfl rfl m hm
  obtain ⟨A, len, c, L, hcs, hl, hk, hr, hc, hc', hb, -, hL⟩ := open_elems Tryz.underlying23 (k := 1) (by kernel_rfl) (by omega) XWord read_xword h0 hz'.1
  obtain ⟨Y, rfl, hY⟩ := list_choose (fun q : Nat => [Value.int .u32 (q : Int)]) (fun q => q < 4294967296) L hL
  have e := flatten_one (fun q : Nat => Value.int .u32 (q : Int)) Y
  rw [e] at hr
  rw [List.length_map] at hl
  simp only [List.cons.injEq, and_true] at hcs
  obtain ⟨l, hs, hsl⟩ := read_str n [v1] y1 h1 hz'.2
  simp only [List.cons.injEq, and_true] at hs
  obtain ⟨room, hr2, -, hw2⟩ := DataW.trod_int Tryz.underlying3 h2
  obtain ⟨en, hr3, -, hw3⟩ := DataW.trod_int Tryz.underlying24 h3
  simp only [List.cons.injEq, and_true] at hr2 hr3
  obtain ⟨g1, g2⟩ := xword_bd hw3
  obtain ⟨q, rfl⟩ := Int.eq_ofNat_of_zero_le g1
  obtain ⟨g3, g4⟩ := wf_bd hw2
  have e1 : IntKind.i64.min = -9223372036854775808 := by decide
  have e2 : IntKind.i64.max = 9223372036854775807 := by decide
  have hb' : Tryz.prog.bytesOf 24 = 4 := by kernel_rfl
  rw [hb'] at hb
  have hR := reach_le
  subst hcs hs hr2 hr3 hl
  exact ⟨A, c, ⟨Y, l, room, q⟩, rfl, hr, ⟨by simp only; omega, by simp only; omega, by simp only; omega, by simp only; omega, by simp only; omega, hY⟩⟩
end
end Go.Proofs.YtmmnkoeajdeldaaGreatDoor
