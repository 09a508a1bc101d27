/- How a root that came in is opened. -/
import Derived.Test.YteamkiblogbfmaaOpen
import Derived.Test.YteamkiblogbfmaaHoldMem
import Derived.OpenShut
namespace Go.Proofs.Yteamkiblogbfmaa
open Go.ChangeShapes Go.WideShapes Go.ChangeAt Go.RowKit Go.Deep
set_option linter.unusedVariables false
section
variable {H : Type} {enc : TypeId × Value → H} {W : World} {base : Nat} {sp : Nat → Bool} {held : Bool}
theorem drop_k {α : Type} {L M : List α} {i k : Nat} (h : (L.drop i).take k = M) : L.drop i = M ++ L.drop (i + k) := by
  rw [← h, ← List.drop_drop, List.take_append_drop]
def I64 (n : Int) : Prop := -9223372036854775808 ≤ n ∧ n ≤ 9223372036854775807
theorem i64_of {n : Int} (h : (Lit.int .i64 n).wf = true) : I64 n := by
  obtain ⟨g3, g4⟩ := wf_bd h
  have e1 : IntKind.i64.min = -9223372036854775808 := by decide
  have e2 : IntKind.i64.max = 9223372036854775807 := by decide
  exact ⟨by omega, by omega⟩
theorem u8_of {n : Int} (h : (Lit.int .u8 n).wf = true) : 0 ≤ n ∧ n < 256 := by
  obtain ⟨g3, g4⟩ := wf_bd h
  have e1 : IntKind.u8.min = 0 := by decide
  have e2 : IntKind.u8.max = 255 := by decide
  omega
/-- One field of a struct, by its cell. -/
theorem one_str {cs : List Value} {x : DataW H × List MemPlace} {fuel : Nat} (h : DataW.trod enc Try.prog W base sp held fuel 9 cs = some x) (hz : ∀ m ∈ x.1.weights Try.prog 9, m ≤ reachBytes) : ∃ l : List UInt8, cs = [.string ⟨l.toArray⟩] ∧ l.length ≤ 140737488355328 := by
  obtain ⟨l, h1, h2⟩ := read_str fuel cs x h hz
  exact ⟨l, h1, Nat.le_trans h2 reach_le⟩
theorem one_int {cs : List Value} {x : DataW H × List MemPlace} {fuel : Nat} (h : DataW.trod enc Try.prog W base sp held fuel 3 cs = some x) : ∃ n : Int, cs = [.int .i64 n] ∧ I64 n := by
  obtain ⟨n, h1, -, h2⟩ := DataW.trod_int Try.underlying3 h
  exact ⟨n, h1, i64_of h2⟩
theorem one_i64 {cs : List Value} {x : DataW H × List MemPlace} {fuel : Nat} (h : DataW.trod enc Try.prog W base sp held fuel 2 cs = some x) : ∃ n : Int, cs = [.int .i64 n] ∧ I64 n := by
  obtain ⟨n, h1, -, h2⟩ := DataW.trod_int Try.underlying2 h
  exact ⟨n, h1, i64_of h2⟩
def RfFit (x : Pl.Rf) : Prop := (I64 x.t ∧ I64 x.n ∧ I64 x.til) ∧ x.m.length ≤ 140737488355328 ∧ x.nm.length ≤ 140737488355328
def RfCell (cs : List Value) : Prop := ∃ x : Pl.Rf, cs = rfC x ∧ RfFit x
set_option maxRecDepth 100000 in
theorem read_rf (fuel : Nat) (cs : List Value) (x : DataW H × List MemPlace) (h : DataW.trod enc Try.prog W base sp held fuel 38 cs = some x) (hz : ∀ m ∈ x.1.weights Try.prog 38, m ≤ reachBytes) : RfCell cs := by
  have hl : cs.length = 5 := (struct_len Try.underlying38 h).trans (by kernel_rfl)
  match cs, hl with
  | [c0, c1, c2, c3, c4], _ =>
    obtain ⟨n0, y0, h0, z0⟩ := struct_field Try.underlying38 h hz 0 _ rfl
    obtain ⟨n1, y1, h1, z1⟩ := struct_field Try.underlying38 h hz 1 _ rfl
    obtain ⟨n2, y2, h2, z2⟩ := struct_field Try.underlying38 h hz 2 _ rfl
    obtain ⟨n3, y3, h3, z3⟩ := struct_field Try.underlying38 h hz 3 _ rfl
    obtain ⟨n4, y4, h4, z4⟩ := struct_field Try.underlying38 h hz 4 _ rfl
    obtain ⟨s0, e0, b0⟩ := one_str (cs := [c0]) h0 z0
    obtain ⟨s1, e1, b1⟩ := one_int (cs := [c1]) h1
    obtain ⟨s2, e2, b2⟩ := one_i64 (cs := [c2]) h2
    obtain ⟨s3, e3, b3⟩ := one_str (cs := [c3]) h3 z3
    obtain ⟨s4, e4, b4⟩ := one_i64 (cs := [c4]) h4
    simp only [List.cons.injEq, and_true] at e0 e1 e2 e3 e4
    subst e0 e1 e2 e3 e4
    exact ⟨⟨s0, s1, s2, s3, s4⟩, rfl, ⟨b2, b1, b4⟩, b0, b3⟩
def PlcCell (cs : List Value) : Prop := ∃ x : Pl.Plc, cs = plC x ∧ True
set_option maxRecDepth 100000 in
theorem read_plc (fuel : Nat) (cs : List Value) (x : DataW H × List MemPlace) (h : DataW.trod enc Try.prog W base sp held fuel 61 cs = some x) (hz : ∀ m ∈ x.1.weights Try.prog 61, m ≤ reachBytes) : PlcCell cs := by
  have hl : cs.length = 3 := (struct_len Try.underlying61 h).trans (by kernel_rfl)
  match cs, hl with
  | [c0, c1, c2], _ =>
    obtain ⟨n0, y0, h0, z0⟩ := struct_field Try.underlying61 h hz 0 _ rfl
    obtain ⟨n1, y1, h1, z1⟩ := struct_field Try.underlying61 h hz 1 _ rfl
    obtain ⟨n2, y2, h2, z2⟩ := struct_field Try.underlying61 h hz 2 _ rfl
    obtain ⟨s0, e0, b0⟩ := one_str (cs := [c0]) h0 z0
    obtain ⟨s1, e1, b1⟩ := one_int (cs := [c1]) h1
    obtain ⟨s2, e2, b2⟩ := one_int (cs := [c2]) h2
    simp only [List.cons.injEq, and_true] at e0 e1 e2
    subst e0 e1 e2
    exact ⟨⟨s0, s1, s2⟩, rfl, trivial⟩
/-- A pack, and the slice's value that its places lie in. -/
def PkdCell (W : World) (cs : List Value) : Prop := ∃ x : Pl.Pkd × Value, cs = pkC x ∧ SlV W 3 x.2 x.1.pl.length (plCs x.1.pl) ∧ x.1.pl.length * 32 ≤ 140737488355328
set_option maxRecDepth 100000 in
theorem read_pkd (fuel : Nat) (cs : List Value) (x : DataW H × List MemPlace) (h : DataW.trod enc Try.prog W base sp held fuel 59 cs = some x) (hz : ∀ m ∈ x.1.weights Try.prog 59, m ≤ reachBytes) : PkdCell W cs := by
  have hl : cs.length = 2 := (struct_len Try.underlying59 h).trans (by kernel_rfl)
  match cs, hl with
  | [c0, c1], _ =>
    obtain ⟨n0, y0, h0, z0⟩ := struct_field Try.underlying59 h hz 0 _ rfl
    obtain ⟨n1, y1, h1, z1⟩ := struct_field Try.underlying59 h hz 1 _ rfl
    obtain ⟨s0, e0, b0⟩ := one_str (cs := [c0]) h0 z0
    obtain ⟨A, n, c, L, e1, hl, hk, hr, hc, hc', hb, hn, hL⟩ := open_elems Try.underlying57 (k := 3) (by kernel_rfl) (by omega) PlcCell read_plc (cs := [c1]) h1 z1
    obtain ⟨Y, rfl, hY⟩ := list_choose plC (fun _ => True) L hL
    rw [List.length_map] at hl
    simp only [List.cons.injEq, and_true] at e0 e1
    subst e0 e1
    have e2 : Try.prog.bytesOf 61 = 32 := by kernel_rfl
    rw [e2] at hb
    have hR := reach_le
    subst hl
    exact ⟨(⟨s0, Y⟩, .slice A Y.length c), rfl, ⟨A, c, rfl, by rw [show plCs Y = (Y.map plC).flatten by simp [plCs, List.flatMap_def]]; exact hr, hn⟩, Nat.le_trans hb reach_le⟩
set_option maxRecDepth 100000 in
theorem read_key {fuel : Nat} {cs : List Value} {x : DataW H × List MemPlace} (h : DataW.trod enc Try.prog W base sp held fuel 54 cs = some x) : ∃ l : List UInt8, cs = (l.map fun b => .int .u8 (b.toNat : Int)) ∧ l.length = 32 := by
  obtain ⟨xs, m, -, -, hl, hxs, hi⟩ := DataW.trod_array Try.underlying54 h
  have hc : Try.prog.cellsOf 54 = 32 := by kernel_rfl
  have hc1 : Try.prog.cellsOf 5 = 1 := by kernel_rfl
  rw [hc] at hl
  rw [hc1] at hi
  have key : ∀ i, (hi' : i < cs.length) → ∃ b : UInt8, cs[i] = .int .u8 (b.toNat : Int) := by
    intro i hi'
    have h1 := hi i (by omega)
    rw [List.getElem?_eq_getElem (by omega), Nat.mul_one, List.drop_eq_getElem_cons hi', List.take_succ_cons, List.take_zero] at h1
    obtain ⟨n, hn, -, hw⟩ := DataW.trod_int Try.underlying5 h1
    obtain ⟨g1, g2⟩ := u8_of hw
    refine ⟨UInt8.ofNat n.toNat, ?_⟩
    injection hn with hn _
    rw [hn]
    congr 1
    simp [UInt8.toNat_ofNat']; omega
  refine ⟨cs.map fun v => match v with | .int _ n => UInt8.ofNat n.toNat | _ => 0, ?_, by simpa using hl⟩
  rw [List.map_map]
  refine List.ext_getElem (by simp) fun i h1 h2 => ?_
  obtain ⟨b, hb⟩ := key i h1
  simp only [List.getElem_map, Function.comp]
  rw [hb]
  simp
def ChaCell (cs : List Value) : Prop := ∃ x : Pl.Cha, cs = chC x ∧ x.key.length = 32
set_option maxRecDepth 100000 in
theorem read_cha (fuel : Nat) (cs : List Value) (x : DataW H × List MemPlace) (h : DataW.trod enc Try.prog W base sp held fuel 56 cs = some x) (hz : ∀ m ∈ x.1.weights Try.prog 56, m ≤ reachBytes) : ChaCell cs := by
  have hl : cs.length = 34 := (struct_len Try.underlying56 h).trans (by kernel_rfl)
  obtain ⟨n0, y0, h0, z0⟩ := struct_field Try.underlying56 h hz 0 _ rfl
  obtain ⟨n1, y1, h1, z1⟩ := struct_field Try.underlying56 h hz 1 _ rfl
  obtain ⟨n2, y2, h2, z2⟩ := struct_field Try.underlying56 h hz 2 _ rfl
  have hc1 : Try.prog.cellsOf 9 = 1 := by kernel_rfl
  have hc2 : Try.prog.cellsOf 47 = 1 := by kernel_rfl
  have hc3 : Try.prog.cellsOf 54 = 32 := by kernel_rfl
  obtain ⟨s0, e0, b0⟩ := one_str h0 z0
  obtain ⟨s1, e1, -, -⟩ := DataW.trod_int Try.underlying47 h1
  obtain ⟨s2, e2, b2⟩ := read_key h2
  have d0 : (cs.drop 0).take 1 = [.string ⟨s0.toArray⟩] := by rw [← hc1]; exact e0
  have d1 : (cs.drop 1).take 1 = [.int .u64 s1] := by rw [← hc2]; exact e1
  have d2 : (cs.drop 2).take 32 = s2.map fun b => .int .u8 (b.toNat : Int) := by rw [← hc3]; exact e2
  have hcs := drop_k d0
  rw [drop_k d1, drop_k d2, List.drop_of_length_le (l := cs) (i := 2 + 32) (by omega), List.drop_zero] at hcs
  exact ⟨⟨s0, s1, s2⟩, by rw [hcs]; simp [chC], b2⟩
set_option maxRecDepth 100000 in
theorem read_pol {fuel : Nat} {cs : List Value} {x : DataW H × List MemPlace} (h : DataW.trod enc Try.prog W base sp held fuel 25 cs = some x) (hz : ∀ m ∈ x.1.weights Try.prog 25, m ≤ reachBytes) : ∃ p : Pl.Pol, cs = [.int .i64 p.d, .int .i64 p.w, .int .i64 p.mo, .int .i64 p.y] := by
  have hl : cs.length = 4 := (struct_len Try.underlying25 h).trans (by kernel_rfl)
  match cs, hl with
  | [c0, c1, c2, c3], _ =>
    obtain ⟨n0, y0, h0, z0⟩ := struct_field Try.underlying25 h hz 0 _ rfl
    obtain ⟨n1, y1, h1, z1⟩ := struct_field Try.underlying25 h hz 1 _ rfl
    obtain ⟨n2, y2, h2, z2⟩ := struct_field Try.underlying25 h hz 2 _ rfl
    obtain ⟨n3, y3, h3, z3⟩ := struct_field Try.underlying25 h hz 3 _ rfl
    obtain ⟨s0, e0, b0⟩ := one_int (cs := [c0]) h0
    obtain ⟨s1, e1, b1⟩ := one_int (cs := [c1]) h1
    obtain ⟨s2, e2, b2⟩ := one_int (cs := [c2]) h2
    obtain ⟨s3, e3, b3⟩ := one_int (cs := [c3]) h3
    simp only [List.cons.injEq, and_true] at e0 e1 e2 e3
    subst e0 e1 e2 e3
    exact ⟨⟨s0, s1, s2, s3⟩, rfl⟩
set_option maxRecDepth 100000 in
theorem read_root {fuel : Nat} {cs : List Value} {x : DataW H × List MemPlace} (h : DataW.trod enc Try.prog W base sp held fuel 28 cs = some x) (hz : ∀ m ∈ x.1.weights Try.prog 28, m ≤ reachBytes) :
    ∃ (R : Pl.Rt) (s p c : Value), Value.agg cs.toArray = rtV R s p c ∧ RtAt W R s p c ∧ RtOk R ∧ ∀ x ∈ R.l, x.m.length ≤ 140737488355328 ∧ x.nm.length ≤ 140737488355328 := by
  have hl : cs.length = 9 := (struct_len Try.underlying28 h).trans (by kernel_rfl)
  match cs, hl with
  | [c0, c1, c2, c3, c4, c5, c6, c7, c8], _ =>
    obtain ⟨n0, y0, h0, z0⟩ := struct_field Try.underlying28 h hz 0 _ rfl
    obtain ⟨n1, y1, h1, z1⟩ := struct_field Try.underlying28 h hz 1 _ rfl
    obtain ⟨n2, y2, h2, z2⟩ := struct_field Try.underlying28 h hz 2 _ rfl
    obtain ⟨n3, y3, h3, z3⟩ := struct_field Try.underlying28 h hz 3 _ rfl
    obtain ⟨n4, y4, h4, z4⟩ := struct_field Try.underlying28 h hz 4 _ rfl
    obtain ⟨n5, y5, h5, z5⟩ := struct_field Try.underlying28 h hz 5 _ rfl
    have hc4 : Try.prog.cellsOf 25 = 4 := by kernel_rfl
    obtain ⟨s0, e0, b0⟩ := one_int (cs := [c0]) h0
    obtain ⟨s1, e1, b1⟩ := one_i64 (cs := [c1]) h1
    obtain ⟨A2, N2, k2, L2, e2, hl2, hk2, hr2, hc2, hc2', hb2, hn2, hL2⟩ := open_elems Try.underlying22 (k := 5) (by kernel_rfl) (by omega) RfCell read_rf (cs := [c2]) h2 z2
    obtain ⟨Y2, rfl, hY2⟩ := list_choose rfC RfFit L2 hL2
    obtain ⟨A3, N3, k3, L3, e3, hl3, hk3, hr3, hc3, hc3', hb3, hn3, hL3⟩ := open_elems Try.underlying23 (k := 2) (by kernel_rfl) (by omega) (PkdCell W) read_pkd (cs := [c3]) h3 z3
    obtain ⟨Y3, rfl, hY3⟩ := list_choose pkC (fun x => SlV W 3 x.2 x.1.pl.length (plCs x.1.pl) ∧ x.1.pl.length * 32 ≤ 140737488355328) L3 hL3
    obtain ⟨p, e4⟩ := read_pol (cs := [c4, c5, c6, c7]) h4 z4
    obtain ⟨A5, N5, k5, L5, e5, hl5, hk5, hr5, hc5, hc5', hb5, hn5, hL5⟩ := open_elems Try.underlying26 (k := 34) (by kernel_rfl) (by omega) ChaCell read_cha (cs := [c8]) h5 z5
    obtain ⟨Y5, rfl, hY5⟩ := list_choose chC (fun x => x.key.length = 32) L5 hL5
    rw [List.length_map] at hl2 hl3 hl5
    simp only [List.cons.injEq, and_true] at e0 e1 e2 e3 e4 e5
    obtain ⟨e4, e6, e7, e8⟩ := e4
    subst e0 e1 e2 e3 e4 e6 e7 e8 e5 hl2 hl3 hl5
    have f2 : Try.prog.bytesOf 38 = 56 := by kernel_rfl
    have f3 : Try.prog.bytesOf 59 = 40 := by kernel_rfl
    have f5 : Try.prog.bytesOf 56 = 56 := by kernel_rfl
    rw [f2] at hb2
    rw [f3] at hb3
    rw [f5] at hb5
    have hR := reach_le
    refine ⟨⟨s0, s1, Y2, Y3.map (·.1), p, Y5⟩, .slice A2 Y2.length k2, .slice A3 Y3.length k3, .slice A5 Y5.length k5, rfl, ⟨?_, ?_, ?_⟩, ⟨Nat.le_trans hb2 hR, fun x hx => ⟨(hY2 x hx).1.1, (hY2 x hx).1.2.1, (hY2 x hx).1.2.2⟩, b1, by simpa using Nat.le_trans hb3 hR, ?_, Nat.le_trans hb5 hR, hY5⟩, fun x hx => (hY2 x hx).2⟩
    · exact ⟨A2, k2, rfl, by rw [show rfCs Y2 = (Y2.map rfC).flatten by simp [rfCs, List.flatMap_def]]; exact hr2, hn2⟩
    · refine ⟨Y3.map (·.2), by simp, ⟨A3, k3, by simp, ?_, hn3⟩, ?_⟩
      · have e : pkCs (Y3.map (·.1)) (Y3.map (·.2)) = (Y3.map pkC).flatten := by
          unfold pkCs
          rw [List.flatMap_def, List.zip_map']
          simp
        simp only [List.length_map]
        rw [e]; exact hr3
      · intro i x s hx hs
        rw [List.getElem?_map, Option.map_eq_some_iff] at hx hs
        obtain ⟨z, hz1, rfl⟩ := hx
        obtain ⟨z', hz2, rfl⟩ := hs
        rw [hz1] at hz2
        injection hz2 with hz2
        subst hz2
        exact (hY3 z (List.mem_of_getElem? hz1)).1
    · exact ⟨A5, k5, rfl, by rw [show chCs Y5 = (Y5.map chC).flatten by simp [chCs, List.flatMap_def]]; exact hr5, hn5⟩
    · intro x hx
      obtain ⟨z, hz1, rfl⟩ := List.mem_map.1 hx
      exact (hY3 z hz1).2
set_option maxRecDepth 100000 in
theorem open_root {v : Value} {d : DataW H} {p : List MemPlace} {r : Reach} {b0 : Nat} (hv : Value.okWide Try.prog W r b0 28 v) (h : DataW.Trod enc Try.prog W base sp held 28 v d p)
    (hz : ∀ m ∈ d.weights Try.prog 28, m ≤ reachBytes) :
    ∃ (R : Pl.Rt) (s p c : Value), v = rtV R s p c ∧ RtAt W R s p c ∧ RtOk R ∧ ∀ x ∈ R.l, x.m.length ≤ 140737488355328 ∧ x.nm.length ≤ 140737488355328 := by
  obtain ⟨cs, rfl, hsz⟩ := okWide_struct Try.underlying28 hv
  obtain ⟨fuel, hf⟩ := h
  obtain ⟨R, s, p', c, h1, h2, h3, h4⟩ := read_root hf hz
  refine ⟨R, s, p', c, ?_, h2, h3, h4⟩
  rw [← h1]; simp [Value.cells]
end
end Go.Proofs.Yteamkiblogbfmaa
