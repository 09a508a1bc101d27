/- How a shelf (api.Shelf), and a list of calls, that came in are opened. -/
import Derived.Test.YtdnebgilkfafhaaGreatDoorOpen
import Derived.Test.YtdnebgilkfafhaaGreatDoorShW1
import Derived.Lib.SmallJoins
namespace Go.Proofs.YtdnebgilkfafhaaGreatDoor
open Go.ChangeShapes Go.WideShapes Go.ChangeAt Go.RowKit Go.Deep Go.Joins

section
variable {H : Type} {enc : TypeId × Value → H} {W : World} {base : Nat} {sp : Nat → Bool} {held : Bool}

def ObjCell (cs : List Value) : Prop := ∃ o : Pl.Obj, cs = objC o ∧ o.name.length ≤ reachBytes ∧ o.data.length ≤ reachBytes ∧ o.was.length ≤ reachBytes
set_option maxRecDepth 100000 in
theorem read_obj (fuel : Nat) (cs : List Value) (x : DataW H × List MemPlace) (h : DataW.trod enc Tryz.prog W base sp held fuel 49 cs = some x) (hz : ∀ m ∈ x.1.weights Tryz.prog 49, m ≤ reachBytes) : ObjCell cs := by
  have hl : cs.length = 4 := (struct_len Tryz.underlying49 h).trans (by kernel_rfl)
  match cs, hl with
  | [c0, c1, c2, c3], _ =>
    obtain ⟨n0, y0, h0, z0⟩ := struct_field Tryz.underlying49 h hz 0 _ rfl
    obtain ⟨n1, y1, h1, z1⟩ := struct_field Tryz.underlying49 h hz 1 _ rfl
    obtain ⟨n2, y2, h2, z2⟩ := struct_field Tryz.underlying49 h hz 2 _ rfl
    obtain ⟨n3, y3, h3, -⟩ := struct_field Tryz.underlying49 h hz 3 _ rfl
    obtain ⟨s0, e0, b0⟩ := read_str n0 [c0] y0 h0 z0
    obtain ⟨s1, e1, b1⟩ := read_str n1 [c1] y1 h1 z1
    obtain ⟨s2, e2, b2⟩ := read_str n2 [c2] y2 h2 z2
    obtain ⟨s3, e3⟩ := bool_cell Tryz.underlying4 (cs := [c3]) h3
    simp only [List.cons.injEq, and_true] at e0 e1 e2 e3
    subst e0 e1 e2 e3
    exact ⟨⟨s0, s1, s2, s3⟩, rfl, b0, b1, b2⟩
def IntCell (cs : List Value) : Prop := ∃ n : Int, cs = [.int .i64 n] ∧ True
set_option maxRecDepth 100000 in
theorem read_int (fuel : Nat) (cs : List Value) (x : DataW H × List MemPlace) (h : DataW.trod enc Tryz.prog W base sp held fuel 3 cs = some x) (_hz : ∀ m ∈ x.1.weights Tryz.prog 3, m ≤ reachBytes) : IntCell cs := by
  obtain ⟨n, rfl, -, -⟩ := DataW.trod_int Tryz.underlying3 h
  exact ⟨n, rfl, trivial⟩
set_option maxRecDepth 100000 in
theorem open_shelf {v : Value} {d : DataW H} {p : List MemPlace} {r : Reach} {b0 : Nat} (hv : Value.okWide Tryz.prog W r b0 26 v) (h : DataW.Trod enc Tryz.prog W base sp held 26 v d p)
    (hz : ∀ m ∈ d.weights Tryz.prog 26, m ≤ reachBytes) :
    ∃ (A A' : Option Addr) (n c m c' : Nat) (l : List Pl.Obj) (F : List Int), v = .agg #[.slice A n c, .slice A' m c'] ∧ l.length = n ∧ F.length = m ∧ SlAt W 4 A n c (objCs l) ∧ SlAt W 1 A' m c' (ints F) ∧ n ≤ 140737488355328 ∧ m ≤ 140737488355328 := by
  obtain ⟨v0, v1, y0, y1, n, rfl, rfl, -, h0, h1⟩ := open_agg2 Tryz.underlying26 (by kernel_rfl) (by kernel_rfl) hv h
  simp only at h0 h1
  have hz' : (∀ m ∈ y0.1.weights Tryz.prog 23, m ≤ reachBytes) ∧ (∀ m ∈ y1.1.weights Tryz.prog 24, m ≤ reachBytes) := by
    simp only [DataW.weights, Tryz.underlying26] at hz
    refine ⟨fun m hm => hz m ?_, fun m hm => hz m ?_⟩
    · exact DataW.weights_mem_each (j := 0) rfl rfl m hm
    · exact DataW.weights_mem_each (j := 1) rfl rfl m hm
  obtain ⟨A, len, c, L, hcs, hl, hk, hr, hc, hc', hb, hn, hL⟩ := open_elems Tryz.underlying23 (k := 4) (by kernel_rfl) (by omega) ObjCell read_obj h0 hz'.1
  obtain ⟨Y, rfl, hY⟩ := list_choose objC (fun o => o.name.length ≤ reachBytes ∧ o.data.length ≤ reachBytes ∧ o.was.length ≤ reachBytes) L hL
  obtain ⟨A', len', c2, L', hcs', hl', hk', hr', hd, hd', hb', hn', hL'⟩ := open_elems Tryz.underlying24 (k := 1) (by kernel_rfl) (by omega) IntCell read_int h1 hz'.2
  obtain ⟨F, rfl, -⟩ := list_choose (fun q : Int => [Value.int .i64 q]) (fun _ => True) L' hL'
  have e := flatten_one (fun q : Int => Value.int .i64 q) F
  rw [e] at hr'
  rw [List.length_map] at hl hl'
  simp only [List.cons.injEq, and_true] at hcs hcs'
  have e1 : Tryz.prog.bytesOf 49 = 56 := by kernel_rfl
  have e2 : Tryz.prog.bytesOf 3 = 8 := by kernel_rfl
  rw [e1] at hb
  rw [e2] at hb'
  have hR := reach_le
  subst hcs hcs'
  refine ⟨A, A', len, c, len', c2, Y, F, rfl, hl, hl', ⟨?_, hc, hc', hn⟩, ⟨hr', hd, hd', hn'⟩, by omega, by omega⟩
  rw [show objCs Y = (Y.map objC).flatten by simp [objCs, List.flatMap_def]]
  exact hr
end
end Go.Proofs.YtdnebgilkfafhaaGreatDoor
