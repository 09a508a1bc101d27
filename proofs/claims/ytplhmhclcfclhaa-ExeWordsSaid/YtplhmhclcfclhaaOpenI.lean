/- How a slice of instructions (api.Ins) that came in is opened; how one field of a struct is read. -/
import Derived.Test.YtplhmhclcfclhaaOpenE
import Derived.Test.YtplhmhclcfclhaaIsaW1
namespace Go.Proofs.Ytplhmhclcfclhaa
open Go.ChangeShapes Go.WideShapes Go.ChangeAt Go.RowKit Go.Deep Go.Joins

/-- An instruction's cells. -/
def insC (x : Pl.Ins) : List Value := [.int .u8 (x.op : Int), .int .u8 (x.a : Int), .int .u8 (x.b : Int), .int .u8 (x.c : Int), .int .i32 x.imm]
def insCs (l : List Pl.Ins) : List Value := l.flatMap insC
theorem insCs_get (l : List Pl.Ins) (i j : Nat) (h : i < l.length) (hj : j < 5) : (insCs l)[i * 5 + j]? = (insC l[i])[j]? := by
  have e : insCs l = (l.map insC).flatten := by simp [insCs, List.flatMap_def]
  have hk : ∀ x ∈ l.map insC, x.length = 5 := by
    intro x hx
    obtain ⟨y, _, rfl⟩ := List.mem_map.1 hx
    rfl
  rw [e, flatten_get 5 (l.map insC) hk i j (by simpa using h) hj]
  simp

section
variable {H : Type} {enc : TypeId × Value → H} {W : World} {base : Nat} {sp : Nat → Bool} {held : Bool} {P : Program}

/-- One field of a struct. -/
theorem struct_field {t : TypeId} {fs : Array Field} {fuel : Nat} {cs : List Value} {x : DataW H × List MemPlace} (ht : P.underlying t = some (.struct fs)) (h : DataW.trod enc P W base sp held fuel t cs = some x)
    (hz : ∀ m ∈ x.1.weights P t, m ≤ reachBytes) (i : Nat) (f : Field) (hf : fs[i]? = some f) :
    ∃ n y, DataW.trod enc P W base sp held n f.type ((cs.drop f.offset).take (P.cellsOf f.type)) = some y ∧ ∀ m ∈ y.1.weights P f.type, m ≤ reachBytes := by
  obtain ⟨xs, n, -, rfl, hl, hlen, hff⟩ := DataW.trod_struct ht h
  have hi : i < fs.size := by
    rcases Nat.lt_or_ge i fs.size with h | h
    · exact h
    · rw [Array.getElem?_eq_none h] at hf; cases hf
  have h1 := hff i f hf
  rw [List.getElem?_eq_getElem (by omega)] at h1
  refine ⟨n, _, h1, fun m hm => hz m ?_⟩
  simp only [DataW.weights, ht]
  refine DataW.weights_mem_each (j := i) (t := f.type) ?_ (d := (xs[i]'(by omega)).1) ?_ m hm
  · rw [List.getElem?_map, Array.getElem?_toList, hf]; rfl
  · rw [List.getElem?_map, List.getElem?_eq_getElem (by omega)]; rfl
theorem struct_len {t : TypeId} {fs : Array Field} {fuel : Nat} {cs : List Value} {x : DataW H × List MemPlace} (ht : P.underlying t = some (.struct fs)) (h : DataW.trod enc P W base sp held fuel t cs = some x) : cs.length = P.cellsOf t := by
  obtain ⟨xs, n, -, rfl, hl, -⟩ := DataW.trod_struct ht h
  exact hl
theorem u8_bd {n : Int} (h : (Lit.int .u8 n).wf = true) : 0 ≤ n ∧ n < 256 := by
  obtain ⟨h1, h2⟩ := wf_bd h
  have e1 : IntKind.u8.min = 0 := by decide
  have e2 : IntKind.u8.max = 255 := by decide
  omega
theorem i32_bd {n : Int} (h : (Lit.int .i32 n).wf = true) : -2147483648 ≤ n ∧ n ≤ 2147483647 := by
  obtain ⟨h1, h2⟩ := wf_bd h
  have e1 : IntKind.i32.min = -2147483648 := by decide
  have e2 : IntKind.i32.max = 2147483647 := by decide
  omega
def InsCell (cs : List Value) : Prop := ∃ x : Pl.Ins, cs = insC x ∧ Pl.InsOk x
set_option maxRecDepth 100000 in
theorem read_ins (fuel : Nat) (cs : List Value) (x : DataW H × List MemPlace) (h : DataW.trod enc Try.prog W base sp held fuel 61 cs = some x) (hz : ∀ m ∈ x.1.weights Try.prog 61, m ≤ reachBytes) : InsCell cs := by
  have hl : cs.length = 5 := (struct_len Try.underlying61 h).trans (by kernel_rfl)
  match cs, hl with
  | [c0, c1, c2, c3, c4], _ =>
    obtain ⟨n0, y0, h0, -⟩ := struct_field Try.underlying61 h hz 0 _ rfl
    obtain ⟨n1, y1, h1, -⟩ := struct_field Try.underlying61 h hz 1 _ rfl
    obtain ⟨n2, y2, h2, -⟩ := struct_field Try.underlying61 h hz 2 _ rfl
    obtain ⟨n3, y3, h3, -⟩ := struct_field Try.underlying61 h hz 3 _ rfl
    obtain ⟨n4, y4, h4, -⟩ := struct_field Try.underlying61 h hz 4 _ rfl
    obtain ⟨m0, e0, -, w0⟩ := DataW.trod_int Try.underlying5 (cs := [c0]) h0
    obtain ⟨m1, e1, -, w1⟩ := DataW.trod_int Try.underlying5 (cs := [c1]) h1
    obtain ⟨m2, e2, -, w2⟩ := DataW.trod_int Try.underlying5 (cs := [c2]) h2
    obtain ⟨m3, e3, -, w3⟩ := DataW.trod_int Try.underlying5 (cs := [c3]) h3
    obtain ⟨m4, e4, -, w4⟩ := DataW.trod_int Try.underlying21 (cs := [c4]) h4
    simp only [List.cons.injEq, and_true] at e0 e1 e2 e3 e4
    obtain ⟨a0, b0⟩ := u8_bd w0
    obtain ⟨a1, b1⟩ := u8_bd w1
    obtain ⟨a2, b2⟩ := u8_bd w2
    obtain ⟨a3, b3⟩ := u8_bd w3
    obtain ⟨a4, b4⟩ := i32_bd w4
    obtain ⟨q0, rfl⟩ := Int.eq_ofNat_of_zero_le a0
    obtain ⟨q1, rfl⟩ := Int.eq_ofNat_of_zero_le a1
    obtain ⟨q2, rfl⟩ := Int.eq_ofNat_of_zero_le a2
    obtain ⟨q3, rfl⟩ := Int.eq_ofNat_of_zero_le a3
    subst e0 e1 e2 e3 e4
    exact ⟨⟨q0, q1, q2, q3, m4⟩, rfl, ⟨by simp only; omega, by simp only; omega, by simp only; omega, by simp only; omega, a4, b4⟩⟩

set_option maxRecDepth 100000 in
theorem open_inss {v : Value} {d : DataW H} {p : List MemPlace} {r : Reach} {b0 : Nat} (hv : Value.okWide Try.prog W r b0 57 v) (h : DataW.Trod enc Try.prog W base sp held 57 v d p)
    (hz : ∀ m ∈ d.weights Try.prog 57, m ≤ reachBytes) :
    ∃ (A : Option Addr) (n c : Nat) (l : List Pl.Ins), v = .slice A n c ∧ (l.length = n ∧ Rd W 5 A n (insCs l) ∧ n ≤ 140737488355328) ∧ ∀ x ∈ l, Pl.InsOk x := by
  obtain ⟨a0, len, cap, rfl⟩ := okWide_slice Try.underlying57 hv
  obtain ⟨fuel, hf⟩ := h
  obtain ⟨A, n, c, L, hcs, hl, hk, hr, hc, hc', hb, -, hL⟩ := open_elems Try.underlying57 (k := 5) (by kernel_rfl) (by omega) InsCell read_ins hf hz
  obtain ⟨Y, rfl, hY⟩ := list_choose insC Pl.InsOk L hL
  simp [Value.cells] at hcs
  obtain ⟨rfl, rfl, rfl⟩ := hcs
  have hb' : Try.prog.bytesOf 61 = 8 := by kernel_rfl
  rw [hb'] at hb
  have hR := reach_le
  rw [List.length_map] at hl
  refine ⟨a0, len, cap, Y, rfl, ⟨hl, ?_, by omega⟩, hY⟩
  rw [show insCs Y = (Y.map insC).flatten by simp [insCs, List.flatMap_def]]
  exact hr
end
end Go.Proofs.Ytplhmhclcfclhaa
