/- How a policy, snapshots, and snapshots with a minute that came in are opened. -/
import Derived.Test.YtmncgnmgdkdhaaaGreatDoorOpen
import Derived.Test.YtmncgnmgdkdhaaaGreatDoorPolMem
import Derived.OpenShut
namespace Go.Proofs.YtmncgnmgdkdhaaaGreatDoor
open Go.ChangeShapes Go.WideShapes Go.ChangeAt Go.RowKit Go.Deep
set_option linter.unusedVariables false
section
variable {H : Type} {enc : TypeId × Value → H} {W : World} {base : Nat} {sp : Nat → Bool} {held : Bool}
theorem drop_k {α : Type} {L M : List α} {i k : Nat} (h : (L.drop i).take k = M) : L.drop i = M ++ L.drop (i + k) := by
  rw [← h, ← List.drop_drop, List.take_append_drop]
def I64 (n : Int) : Prop := -9223372036854775808 ≤ n ∧ n ≤ 9223372036854775807
theorem i64_of {n : Int} (h : (Lit.int .i64 n).wf = true) : I64 n := by
  obtain ⟨g3, g4⟩ := wf_bd h
  have e1 : IntKind.i64.min = -9223372036854775808 := by decide
  have e2 : IntKind.i64.max = 9223372036854775807 := by decide
  exact ⟨by omega, by omega⟩
theorem u8_of {n : Int} (h : (Lit.int .u8 n).wf = true) : 0 ≤ n ∧ n < 256 := by
  obtain ⟨g3, g4⟩ := wf_bd h
  have e1 : IntKind.u8.min = 0 := by decide
  have e2 : IntKind.u8.max = 255 := by decide
  omega
/-- One field of a struct, by its cell. -/
theorem one_str {cs : List Value} {x : DataW H × List MemPlace} {fuel : Nat} (h : DataW.trod enc Tryz.prog W base sp held fuel 9 cs = some x) (hz : ∀ m ∈ x.1.weights Tryz.prog 9, m ≤ reachBytes) : ∃ l : List UInt8, cs = [.string ⟨l.toArray⟩] ∧ l.length ≤ 140737488355328 := by
  obtain ⟨l, h1, h2⟩ := read_str fuel cs x h hz
  exact ⟨l, h1, Nat.le_trans h2 reach_le⟩
theorem one_int {cs : List Value} {x : DataW H × List MemPlace} {fuel : Nat} (h : DataW.trod enc Tryz.prog W base sp held fuel 3 cs = some x) : ∃ n : Int, cs = [.int .i64 n] ∧ I64 n := by
  obtain ⟨n, h1, -, h2⟩ := DataW.trod_int Tryz.underlying3 h
  exact ⟨n, h1, i64_of h2⟩
theorem one_i64 {cs : List Value} {x : DataW H × List MemPlace} {fuel : Nat} (h : DataW.trod enc Tryz.prog W base sp held fuel 2 cs = some x) : ∃ n : Int, cs = [.int .i64 n] ∧ I64 n := by
  obtain ⟨n, h1, -, h2⟩ := DataW.trod_int Tryz.underlying2 h
  exact ⟨n, h1, i64_of h2⟩
def RfFit (x : Pl.Rf) : Prop := (I64 x.t ∧ I64 x.n ∧ I64 x.til) ∧ x.m.length ≤ 140737488355328 ∧ x.nm.length ≤ 140737488355328
def RfCell (cs : List Value) : Prop := ∃ x : Pl.Rf, cs = rfC x ∧ RfFit x
set_option maxRecDepth 100000 in
theorem read_rf (fuel : Nat) (cs : List Value) (x : DataW H × List MemPlace) (h : DataW.trod enc Tryz.prog W base sp held fuel 39 cs = some x) (hz : ∀ m ∈ x.1.weights Tryz.prog 39, m ≤ reachBytes) : RfCell cs := by
  have hl : cs.length = 5 := (struct_len Tryz.underlying39 h).trans (by kernel_rfl)
  match cs, hl with
  | [c0, c1, c2, c3, c4], _ =>
    obtain ⟨n0, y0, h0, z0⟩ := struct_field Tryz.underlying39 h hz 0 _ rfl
    obtain ⟨n1, y1, h1, z1⟩ := struct_field Tryz.underlying39 h hz 1 _ rfl
    obtain ⟨n2, y2, h2, z2⟩ := struct_field Tryz.underlying39 h hz 2 _ rfl
    obtain ⟨n3, y3, h3, z3⟩ := struct_field Tryz.underlying39 h hz 3 _ rfl
    obtain ⟨n4, y4, h4, z4⟩ := struct_field Tryz.underlying39 h hz 4 _ rfl
    obtain ⟨s0, e0, b0⟩ := one_str (cs := [c0]) h0 z0
    obtain ⟨s1, e1, b1⟩ := one_int (cs := [c1]) h1
    obtain ⟨s2, e2, b2⟩ := one_i64 (cs := [c2]) h2
    obtain ⟨s3, e3, b3⟩ := one_str (cs := [c3]) h3 z3
    obtain ⟨s4, e4, b4⟩ := one_i64 (cs := [c4]) h4
    simp only [List.cons.injEq, and_true] at e0 e1 e2 e3 e4
    subst e0 e1 e2 e3 e4
    exact ⟨⟨s0, s1, s2, s3, s4⟩, rfl, ⟨b2, b1, b4⟩, b0, b3⟩
set_option maxRecDepth 100000 in
theorem read_pol {fuel : Nat} {cs : List Value} {x : DataW H × List MemPlace} (h : DataW.trod enc Tryz.prog W base sp held fuel 23 cs = some x) (hz : ∀ m ∈ x.1.weights Tryz.prog 23, m ≤ reachBytes) : ∃ p : Pl.Pol, cs = [.int .i64 p.d, .int .i64 p.w, .int .i64 p.mo, .int .i64 p.y] ∧ (I64 p.d ∧ I64 p.w ∧ I64 p.mo ∧ I64 p.y) := by
  have hl : cs.length = 4 := (struct_len Tryz.underlying23 h).trans (by kernel_rfl)
  match cs, hl with
  | [c0, c1, c2, c3], _ =>
    obtain ⟨n0, y0, h0, z0⟩ := struct_field Tryz.underlying23 h hz 0 _ rfl
    obtain ⟨n1, y1, h1, z1⟩ := struct_field Tryz.underlying23 h hz 1 _ rfl
    obtain ⟨n2, y2, h2, z2⟩ := struct_field Tryz.underlying23 h hz 2 _ rfl
    obtain ⟨n3, y3, h3, z3⟩ := struct_field Tryz.underlying23 h hz 3 _ rfl
    obtain ⟨s0, e0, b0⟩ := one_int (cs := [c0]) h0
    obtain ⟨s1, e1, b1⟩ := one_int (cs := [c1]) h1
    obtain ⟨s2, e2, b2⟩ := one_int (cs := [c2]) h2
    obtain ⟨s3, e3, b3⟩ := one_int (cs := [c3]) h3
    simp only [List.cons.injEq, and_true] at e0 e1 e2 e3
    subst e0 e1 e2 e3
    exact ⟨⟨s0, s1, s2, s3⟩, rfl, b0, b1, b2, b3⟩
set_option maxRecDepth 100000 in
theorem open_pol {v : Value} {d : DataW H} {p : List MemPlace} {r : Reach} {b0 : Nat} (hv : Value.okWide Tryz.prog W r b0 23 v) (h : DataW.Trod enc Tryz.prog W base sp held 23 v d p)
    (hz : ∀ m ∈ d.weights Tryz.prog 23, m ≤ reachBytes) :
    ∃ q : Pl.Pol, v = polV q ∧ (I64 q.d ∧ I64 q.w ∧ I64 q.mo ∧ I64 q.y) := by
  obtain ⟨cs, rfl, hsz⟩ := okWide_struct Tryz.underlying23 hv
  obtain ⟨fuel, hf⟩ := h
  obtain ⟨q, h1, h2⟩ := read_pol hf hz
  refine ⟨q, ?_, h2⟩
  have e : Value.agg cs = .agg cs.toList.toArray := by simp
  rw [e, show cs.toList = _ by simpa [Value.cells] using h1]; rfl
set_option maxRecDepth 100000 in
theorem open_rf {v : Value} {d : DataW H} {p : List MemPlace} {r : Reach} {b0 : Nat} (hv : Value.okWide Tryz.prog W r b0 39 v) (h : DataW.Trod enc Tryz.prog W base sp held 39 v d p)
    (hz : ∀ m ∈ d.weights Tryz.prog 39, m ≤ reachBytes) :
    ∃ x : Pl.Rf, v = .agg (rfC x).toArray ∧ RfFit x := by
  obtain ⟨cs, rfl, hsz⟩ := okWide_struct Tryz.underlying39 hv
  obtain ⟨fuel, hf⟩ := h
  obtain ⟨x, h1, h2⟩ := read_rf _ _ _ hf hz
  refine ⟨x, ?_, h2⟩
  have e : Value.agg cs = .agg cs.toList.toArray := by simp
  rw [e, show cs.toList = _ by simpa [Value.cells] using h1]
/-- Snapshots that came in: the slice's value, and what lies there. -/
def RfsIn (W : World) (v : Value) (l : List Pl.Rf) : Prop := ∃ (A : Option Addr) (c : Nat), v = .slice A l.length c ∧ Rd W 5 A l.length (rfCs l) ∧ (A = none → c = 0) ∧ l.length * 56 ≤ 140737488355328 ∧ ∀ x ∈ l, RfFit x
set_option maxRecDepth 100000 in
theorem read_rfs {fuel : Nat} {cs : List Value} {x : DataW H × List MemPlace} (h : DataW.trod enc Tryz.prog W base sp held fuel 32 cs = some x) (hz : ∀ m ∈ x.1.weights Tryz.prog 32, m ≤ reachBytes) : ∃ (v : Value) (l : List Pl.Rf), cs = [v] ∧ RfsIn W v l := by
  obtain ⟨A2, N2, k2, L2, e2, hl2, hk2, hr2, hc2, hc2', hb2, hn2, hL2⟩ := open_elems Tryz.underlying32 (k := 5) (by kernel_rfl) (by omega) RfCell read_rf h hz
  obtain ⟨Y2, rfl, hY2⟩ := list_choose rfC RfFit L2 hL2
  rw [List.length_map] at hl2
  subst hl2
  have f2 : Tryz.prog.bytesOf 39 = 56 := by kernel_rfl
  rw [f2] at hb2
  refine ⟨_, Y2, e2, A2, k2, rfl, ?_, hn2, Nat.le_trans hb2 reach_le, hY2⟩
  rw [show rfCs Y2 = (Y2.map rfC).flatten by simp [rfCs, List.flatMap_def]]; exact hr2
set_option maxRecDepth 100000 in
theorem open_rfs {v : Value} {d : DataW H} {p : List MemPlace} {r : Reach} {b0 : Nat} (hv : Value.okWide Tryz.prog W r b0 32 v) (h : DataW.Trod enc Tryz.prog W base sp held 32 v d p)
    (hz : ∀ m ∈ d.weights Tryz.prog 32, m ≤ reachBytes) : ∃ l : List Pl.Rf, RfsIn W v l := by
  obtain ⟨a0, len, cap, rfl⟩ := okWide_slice Tryz.underlying32 hv
  obtain ⟨fuel, hf⟩ := h
  obtain ⟨v, l, hcs, h1⟩ := read_rfs hf hz
  simp [Value.cells] at hcs
  rw [hcs]; exact ⟨l, h1⟩
set_option maxRecDepth 100000 in
theorem open_by {v : Value} {d : DataW H} {p : List MemPlace} {r : Reach} {b0 : Nat} (hv : Value.okWide Tryz.prog W r b0 34 v) (h : DataW.Trod enc Tryz.prog W base sp held 34 v d p)
    (hz : ∀ m ∈ d.weights Tryz.prog 34, m ≤ reachBytes) :
    ∃ (s : Value) (l : List Pl.Rf) (now : Int), v = .agg #[s, .int .i64 now] ∧ RfsIn W s l ∧ I64 now := by
  obtain ⟨cs, rfl, hsz⟩ := okWide_struct Tryz.underlying34 hv
  obtain ⟨fuel, hf⟩ := h
  have hl : (Value.agg cs).cells.toList.length = 2 := (struct_len Tryz.underlying34 hf).trans (by kernel_rfl)
  have e : Value.agg cs = .agg cs.toList.toArray := by simp
  have ec : (Value.agg cs).cells.toList = cs.toList := by simp [Value.cells]
  rw [e]
  rw [ec] at hf hl
  generalize cs.toList = C at hf hl ⊢
  match C, hl with
  | [c0, c1], _ =>
    obtain ⟨n0, y0, h0, z0⟩ := struct_field Tryz.underlying34 hf hz 0 _ rfl
    obtain ⟨n1, y1, h1, z1⟩ := struct_field Tryz.underlying34 hf hz 1 _ rfl
    obtain ⟨s, l, e0, hs⟩ := read_rfs (cs := [c0]) h0 z0
    obtain ⟨now, e1, hn⟩ := one_i64 (cs := [c1]) h1
    simp only [List.cons.injEq, and_true] at e0 e1
    subst e0 e1
    exact ⟨_, l, now, rfl, hs, hn⟩
theorem okWide_arr {P : Program} {t e : TypeId} {n : Nat} {w : World} {r : Reach} {b0 : Nat} {v : Value} (ht : P.underlying t = some (.array n e)) (h : Value.okWide P w r b0 t v) : ∃ cs, v = .agg cs ∧ cs.size = P.cellsOf t := by
  simp only [Value.okWide, ht] at h
  obtain ⟨cs, h1, h2, _⟩ := h
  exact ⟨cs, h1, h2⟩
set_option maxRecDepth 100000 in
theorem open_four {v : Value} {d : DataW H} {p : List MemPlace} {r : Reach} {b0 : Nat} (hv : Value.okWide Tryz.prog W r b0 31 v) (h : DataW.Trod enc Tryz.prog W base sp held 31 v d p)
    (hz : ∀ m ∈ d.weights Tryz.prog 31, m ≤ reachBytes) :
    ∃ (a b c e : UInt8), v = .agg #[.int .u8 (a.toNat : Int), .int .u8 (b.toNat : Int), .int .u8 (c.toNat : Int), .int .u8 (e.toNat : Int)] := by
  obtain ⟨cs, rfl, hsz⟩ := okWide_arr Tryz.underlying31 hv
  obtain ⟨fuel, hf⟩ := h
  have e : Value.agg cs = .agg cs.toList.toArray := by simp
  have ec : (Value.agg cs).cells.toList = cs.toList := by simp [Value.cells]
  rw [e]
  rw [ec] at hf
  generalize cs.toList = C at hf ⊢
  obtain ⟨xs, m, -, -, hl, hxs, hi⟩ := DataW.trod_array Tryz.underlying31 hf
  have hc : Tryz.prog.cellsOf 31 = 4 := by kernel_rfl
  have hc1 : Tryz.prog.cellsOf 5 = 1 := by kernel_rfl
  rw [hc] at hl
  rw [hc1] at hi
  match C, hl with
  | [c0, c1, c2, c3], _ =>
    have key : ∀ (n : Int) (h : (Lit.int .u8 n).wf = true), ∃ b : UInt8, n = (b.toNat : Int) := fun n h => by
      obtain ⟨g1, g2⟩ := u8_of h
      exact ⟨UInt8.ofNat n.toNat, by simp [UInt8.toNat_ofNat']; omega⟩
    have h0 := hi 0 (by simp)
    have h1 := hi 1 (by simp)
    have h2 := hi 2 (by simp)
    have h3 := hi 3 (by simp)
    rw [List.getElem?_eq_getElem (by omega)] at h0 h1 h2 h3
    obtain ⟨n0, e0, -, w0⟩ := DataW.trod_int Tryz.underlying5 (cs := [c0]) h0
    obtain ⟨n1, e1, -, w1⟩ := DataW.trod_int Tryz.underlying5 (cs := [c1]) h1
    obtain ⟨n2, e2, -, w2⟩ := DataW.trod_int Tryz.underlying5 (cs := [c2]) h2
    obtain ⟨n3, e3, -, w3⟩ := DataW.trod_int Tryz.underlying5 (cs := [c3]) h3
    simp only [List.cons.injEq, and_true] at e0 e1 e2 e3
    obtain ⟨a, rfl⟩ := key n0 w0
    obtain ⟨b, rfl⟩ := key n1 w1
    obtain ⟨c, rfl⟩ := key n2 w2
    obtain ⟨e, rfl⟩ := key n3 w3
    subst e0 e1 e2 e3
    exact ⟨a, b, c, e, rfl⟩
end
end Go.Proofs.YtmncgnmgdkdhaaaGreatDoor
