/- How a message that came in is opened. -/
import Derived.Test.YtadoplgmeoghmaaDoorOpenSn
import Derived.Test.YtadoplgmeoghmaaDoorWireM
namespace Go.Proofs.YtadoplgmeoghmaaDoor
open Go.ChangeShapes Go.WideShapes Go.ChangeAt Go.RowKit Go.Deep
set_option linter.unusedVariables false
section
variable {H : Type} {enc : TypeId × Value → H} {W : World} {base : Nat} {sp : Nat → Bool} {held : Bool}
/-- The zero message. -/
def msgW : Value := .agg (([Value.int .i64 0, .string ⟨#[]⟩, .string ⟨#[]⟩, .int .i64 0, .int .i64 0, .int .u64 0, .int .i64 0, .int .i64 0, .slice none 0 0, .slice none 0 0, .slice none 0 0] ++ List.replicate 32 (.int .u8 0) ++ [.int .i64 0, .int .i64 0]) : List Value).toArray
structure MgNum (m : Pl.Msg) : Prop where
  k : Pl.I64 m.k
  snap : SnNum m.snap
  n : Pl.I64 m.n
  why : Pl.I64 m.why
set_option maxRecDepth 100000 in
theorem open_msg {v : Value} {d : DataW H} {p : List MemPlace} {r : Reach} {b0 : Nat} (hv : Value.okWide Tryd.prog W r b0 34 v) (h : DataW.Trod enc Tryd.prog W base sp held 34 v d p)
    (hz : ∀ m ∈ d.weights Tryd.prog 34, m ≤ reachBytes) :
    ∃ (m : Pl.Msg) (X : Cx), v = .agg (mgL m X).toArray ∧ SnOk W m.snap X ∧ MgFit m ∧ MgNum m := by
  obtain ⟨ca, rfl, hsz⟩ := okWide_struct Tryd.underlying34 hv
  obtain ⟨fuel, hf⟩ := h
  obtain ⟨cs, hcs0⟩ : ∃ cs, ca.toList = cs := ⟨_, rfl⟩
  have hca : ca = cs.toArray := by rw [← hcs0]
  simp only [Value.cells] at hf
  rw [hcs0] at hf
  obtain ⟨xs, n, -, hx, hl, hlen, hff⟩ := DataW.trod_struct Tryd.underlying34 hf
  have hc1 : Tryd.prog.cellsOf 9 = 1 := by kernel_rfl
  have hc2 : Tryd.prog.cellsOf 3 = 1 := by kernel_rfl
  have hc3 : Tryd.prog.cellsOf 32 = 1 := by kernel_rfl
  have hc4 : Tryd.prog.cellsOf 31 = 41 := by kernel_rfl
  have hc5 : Tryd.prog.cellsOf 34 = 45 := by kernel_rfl
  rw [hc5] at hl
  have f0 := hff 0 _ rfl
  have f1 := hff 1 _ rfl
  have f2 := hff 2 _ rfl
  have f3 := hff 3 _ rfl
  have f4 := hff 4 _ rfl
  have hlen5 : xs.length = 5 := hlen
  match xs, hlen5 with
  | [y0, y1, y2, y3, y4], _ =>
    have hd : d = .agg [y0.1, y1.1, y2.1, y3.1, y4.1] := (Prod.mk.inj hx).1
    have w1 : ∀ m ∈ y1.1.weights Tryd.prog 9, m ≤ reachBytes := fun m hm => hz m (by
      rw [hd]; simp only [DataW.weights, Tryd.underlying34]; exact DataW.weights_mem_each (j := 1) rfl rfl m hm)
    have w2 : ∀ m ∈ y2.1.weights Tryd.prog 31, m ≤ reachBytes := fun m hm => hz m (by
      rw [hd]; simp only [DataW.weights, Tryd.underlying34]; exact DataW.weights_mem_each (j := 2) rfl rfl m hm)
    obtain ⟨n0, e0, -, wf0⟩ := DataW.trod_int Tryd.underlying3 f0
    obtain ⟨s1, e1, hy1, -⟩ := DataW.trod_string Tryd.underlying9 f1
    have b1 : s1.data.toList.length ≤ reachBytes := w1 _ (by rw [hy1]; simp [DataW.weights])
    obtain ⟨s, X, e2, hsok, hsfit, hsnum, -⟩ := read_snap f2 w2
    obtain ⟨n3, e3, -, wf3⟩ := DataW.trod_int Tryd.underlying3 f3
    obtain ⟨n4, e4, -, wf4⟩ := DataW.trod_int Tryd.underlying32 f4
    have d0 : (cs.drop 0).take 1 = [.int .i64 n0] := by rw [← hc2]; exact e0
    have d1 : (cs.drop 1).take 1 = [.string s1] := by rw [← hc1]; exact e1
    have d2 : (cs.drop 2).take 41 = snL s X := by rw [← hc4]; exact e2
    have d3 : (cs.drop 43).take 1 = [.int .i64 n3] := by rw [← hc2]; exact e3
    have d4 : (cs.drop 44).take 1 = [.int .i64 n4] := by rw [← hc3]; exact e4
    have hcs := drop_k d0
    rw [drop_k d1, drop_k d2, drop_k d3, drop_k d4, List.drop_of_length_le (l := cs) (i := 44 + 1) (by omega), List.drop_zero] at hcs
    obtain ⟨sm, hsm⟩ : ∃ sm, s1.data.toList = sm := ⟨_, rfl⟩
    have hs1 : s1 = ⟨sm.toArray⟩ := by rw [← hsm, mk_toList]
    rw [hsm] at b1
    refine ⟨⟨n0, sm, s, n3, n4⟩, X, ?_, hsok, ⟨Nat.le_trans b1 reach_le, hsfit⟩, ⟨i64_of wf0, hsnum, i64_of wf3, i64_of wf4⟩⟩
    rw [hca, hcs, hs1]
    simp [mgL]
end
end Go.Proofs.YtadoplgmeoghmaaDoor
