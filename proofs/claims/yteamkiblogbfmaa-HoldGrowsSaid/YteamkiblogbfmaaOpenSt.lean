/- How a list of pairs of numbers that came in is opened. -/
import Derived.Test.YteamkiblogbfmaaOpenRt
namespace Go.Proofs.Yteamkiblogbfmaa
open Go.ChangeShapes Go.WideShapes Go.ChangeAt Go.RowKit Go.Deep
set_option linter.unusedVariables false
def stC (x : Int × Int) : List Value := [.int .i64 x.1, .int .i64 x.2]
def stCs (l : List (Int × Int)) : List Value := l.flatMap stC
/-- The two cells of pair i. -/
theorem Rd.st {w : World} {A : Option Addr} {n : Nat} {l : List (Int × Int)} (h : Rd w 2 A n (stCs l)) (hn : l.length = n) {i : Nat} (hi : i < n) :
    ∃ b off, A = some ⟨b, off, none⟩ ∧ b < w.heap.size ∧ ∀ x, l.getD i default = x → w.cell? ⟨b, off + i * 2, none⟩ = some (.int .i64 x.1) ∧ w.cell? ⟨b, off + i * 2 + 1, none⟩ = some (.int .i64 x.2) := by
  obtain ⟨b, off, rfl, hb, hc⟩ := h.all (by omega)
  have hl := h.len
  have g := fun j hj => flat_get stC 2 l (fun _ _ => rfl) i j (by omega) hj
  have hg : ∀ j : Nat, (stCs l)[j]? = (l.flatMap stC)[j]? := fun _ => rfl
  refine ⟨b, off, rfl, hb, ?_⟩
  rintro x rfl
  rw [List.getD_eq_getElem?_getD, List.getElem?_eq_getElem (by omega)]
  refine ⟨?_, ?_⟩
  · rw [hc (i * 2) (by omega), hg]; exact g 0 (by omega)
  · rw [Nat.add_assoc, hc (i * 2 + 1) (by omega), hg]; exact g 1 (by omega)
section
variable {H : Type} {enc : TypeId × Value → H} {W : World} {base : Nat} {sp : Nat → Bool} {held : Bool}
def StCell (cs : List Value) : Prop := ∃ x : Int × Int, cs = stC x ∧ I64 x.1 ∧ I64 x.2
set_option maxRecDepth 100000 in
theorem read_st (fuel : Nat) (cs : List Value) (x : DataW H × List MemPlace) (h : DataW.trod enc Try.prog W base sp held fuel 48 cs = some x) (hz : ∀ m ∈ x.1.weights Try.prog 48, m ≤ reachBytes) : StCell cs := by
  obtain ⟨xs, m, -, -, hl, hxs, hi⟩ := DataW.trod_array Try.underlying48 h
  have hc : Try.prog.cellsOf 48 = 2 := by kernel_rfl
  have hc1 : Try.prog.cellsOf 2 = 1 := by kernel_rfl
  rw [hc] at hl
  rw [hc1] at hi
  match cs, hl with
  | [c0, c1], _ =>
    have h0 := hi 0 (by simp)
    have h1 := hi 1 (by simp)
    rw [List.getElem?_eq_getElem (by omega)] at h0 h1
    obtain ⟨s0, e0, b0⟩ := one_i64 (cs := [c0]) h0
    obtain ⟨s1, e1, b1⟩ := one_i64 (cs := [c1]) h1
    simp only [List.cons.injEq, and_true] at e0 e1
    subst e0 e1
    exact ⟨(s0, s1), rfl, b0, b1⟩
set_option maxRecDepth 100000 in
theorem open_sets {v : Value} {d : DataW H} {p : List MemPlace} {r : Reach} {b0 : Nat} (hv : Value.okWide Try.prog W r b0 45 v) (h : DataW.Trod enc Try.prog W base sp held 45 v d p)
    (hz : ∀ m ∈ d.weights Try.prog 45, m ≤ reachBytes) :
    ∃ (A : Option Addr) (n c : Nat) (l : List (Int × Int)), v = .slice A n c ∧ l.length = n ∧ Rd W 2 A n (stCs l) ∧ ∀ x ∈ l, I64 x.1 ∧ I64 x.2 := by
  obtain ⟨a0, len, cap, rfl⟩ := okWide_slice Try.underlying45 hv
  obtain ⟨fuel, hf⟩ := h
  obtain ⟨A, n, c, L, hcs, hl, hk, hr, hc, hc', hb, -, hL⟩ := open_elems Try.underlying45 (k := 2) (by kernel_rfl) (by omega) StCell read_st hf hz
  obtain ⟨Y, rfl, hY⟩ := list_choose stC (fun x => I64 x.1 ∧ I64 x.2) L hL
  simp [Value.cells] at hcs
  obtain ⟨rfl, rfl, rfl⟩ := hcs
  rw [List.length_map] at hl
  refine ⟨a0, len, cap, Y, rfl, hl, ?_, hY⟩
  rw [show stCs Y = (Y.map stC).flatten by simp [stCs, List.flatMap_def]]
  exact hr
end
end Go.Proofs.Yteamkiblogbfmaa
