/- How a statement's arguments are opened: texts, and slices of texts, as lists of bytes. No condition. -/
import Derived.Test.YtommlolhpaeioaaDoorRows
import Derived.Test.YtommlolhpaeioaaDoorRd
import Derived.ProofKit
import Derived.OpenShut
import Derived.ShutString
import Derived.ChangeOld
import Derived.SizedLaws
import Derived.SliceStrings
namespace Go.Proofs.YtommlolhpaeioaaDoor
open Go.ChangeShapes Go.WideShapes Go.ChangeAt Go.RowKit
open Go.ChangeMaps (open_string shut_string)

theorem own : ownKnob Tryd.prog.godebug = none := by kernel_rfl
theorem laidOut : laidOutB Tryd.prog = true := by kernel_rfl

theorem reach_le : reachBytes ≤ 140737488355328 := by decide
theorem mk_toList (s : ByteArray) : (⟨s.data.toList.toArray⟩ : ByteArray) = s := by apply ByteArray.ext; simp

section
variable {H : Type} {enc : TypeId × Value → H} {W : World} {base : Nat} {sp : Nat → Bool} {held : Bool}
set_option maxRecDepth 100000 in
/-- A slice of texts. -/
theorem open_strs {v : Value} {d : DataW H} {p : List MemPlace} {r : Reach} {b0 : Nat} (hv : Value.okWide Tryd.prog W r b0 23 v) (h : DataW.Trod enc Tryd.prog W base sp held 23 v d p)
    (hz : ∀ m ∈ d.weights Tryd.prog 23, m ≤ reachBytes) :
    ∃ (A : Option Addr) (n c : Nat) (l : List (List UInt8)), v = .slice A n c ∧ Rd W 1 A n (strs l) ∧ n ≤ c ∧ c ≤ 9223372036854775807 ∧ n ≤ reachBytes ∧ (∀ s ∈ l, s.length ≤ reachBytes) ∧ (A = none → c = 0) := by
  have hlt : ∀ x ∈ p, x.block < W.heap.size := by obtain ⟨m, hm⟩ := h; exact DataW.trod_lt m _ _ _ hm
  obtain ⟨a0, len, cap, rfl⟩ := okWide_slice Tryd.underlying23 hv
  obtain ⟨fuel, hf⟩ := h
  rcases open_strings Tryd.underlying23 Tryd.underlying9 (by kernel_rfl) hf with ⟨hcs, hx⟩ | ⟨a, len', cap', ss, hcs, _, hl, hm, hss, hx, hcell, hws⟩
  · simp [Value.cells] at hcs
    obtain ⟨rfl, rfl, rfl⟩ := hcs
    exact ⟨none, 0, 0, [], rfl, Rd.nil, by omega, by omega, by omega, by simp, fun _ => rfl⟩
  · simp [Value.cells] at hcs
    obtain ⟨rfl, rfl, rfl⟩ := hcs
    simp only [Prod.mk.injEq] at hx
    obtain ⟨rfl, rfl⟩ := hx
    unfold maxLen at hm
    have hge : len ≤ ss.length := by rw [hss]; split <;> omega
    have hwm : ∀ (l : List ByteArray) (s : ByteArray), s ∈ l → s.size ∈ DataW.weightsAll (H := H) Tryd.prog 9 (Go.ChangeShapes.strs l) := by
      intro l
      induction l with
      | nil => intro s hs; simp at hs
      | cons x l ih =>
        intro s hs
        simp only [Go.ChangeShapes.strs, List.map_cons, DataW.weightsAll, DataW.weights, List.mem_append, List.mem_singleton]
        rcases List.mem_cons.1 hs with rfl | hs
        · left; exact (Array.length_toList).symm
        · right; exact ih s hs
    have hsize := hz (((ss.take len).length + (ss.drop len).length) * 16) (by
      have hb : Tryd.prog.bytesOf 9 = 16 := by kernel_rfl
      simp [DataW.weights, Tryd.underlying23, hb, Go.ChangeShapes.strs])
    have hstr : ∀ s ∈ ss.take len, s.size ≤ reachBytes := fun s hs => hz s.size (by
      simp only [DataW.weights, Tryd.underlying23, List.mem_cons, List.mem_append]
      exact .inr (.inl (hwm _ s hs)))
    rw [← List.length_append, List.take_append_drop] at hsize
    refine ⟨some a, len, cap, (ss.take len).map fun s => s.data.toList, rfl, ⟨by simp [strs]; omega, fun hn => ?_⟩, hl, hm, ?_, ?_, fun h => by cases h⟩
    · obtain ⟨b, off, spot⟩ := a
      have hc0 := hcell 0 (by omega)
      have hspot : spot = none := by simpa [Addr.add] using World.cell?_spot hc0
      subst hspot
      refine ⟨b, off, rfl, World.block_lt_of_cell? W _ (by simpa [Addr.add] using hc0), fun j hj => ?_⟩
      simp only [Go.Proofs.YtommlolhpaeioaaDoor.strs, List.length_map, List.length_take] at hj
      have h1 := hcell j (by omega)
      rw [addr_add] at h1
      rw [h1, strs_get _ j (by simp; omega)]
      simp only [List.getElem_map, List.getElem_take, mk_toList]
      rw [List.getD_eq_getElem?_getD, List.getElem?_eq_getElem (by omega)]
      rfl
    · omega
    · intro s hs
      obtain ⟨x, hx, rfl⟩ := List.mem_map.1 hs
      have := hstr x hx
      rw [Array.length_toList]; exact this

set_option maxRecDepth 100000 in
theorem open_str {v : Value} {d : DataW H} {p : List MemPlace} {r : Reach} {b0 : Nat} (hv : Value.okWide Tryd.prog W r b0 9 v) (h : DataW.Trod enc Tryd.prog W base sp held 9 v d p)
    (hz : ∀ m ∈ d.weights Tryd.prog 9, m ≤ reachBytes) : ∃ l : List UInt8, v = .string ⟨l.toArray⟩ ∧ l.length ≤ reachBytes := by
  obtain ⟨s, rfl, rfl, rfl, -⟩ := open_string Tryd.underlying9 hv h
  exact ⟨s.data.toList, by rw [mk_toList], hz _ (by simp [DataW.weights])⟩
theorem wf_bd {k : IntKind} {n : Int} (h : (Lit.int k n).wf = true) : k.min ≤ n ∧ n ≤ k.max := by simpa [Lit.wf] using h
set_option maxRecDepth 100000 in
theorem open_u64 {v : Value} {d : DataW H} {p : List MemPlace} {r : Reach} {b0 : Nat} (hv : Value.okWide Tryd.prog W r b0 22 v) (h : DataW.Trod enc Tryd.prog W base sp held 22 v d p)
    (_hz : ∀ m ∈ d.weights Tryd.prog 22, m ≤ reachBytes) : ∃ x : Nat, v = .int .u64 x ∧ x < 18446744073709551616 := by
  obtain ⟨n, rfl, rfl, rfl, hw⟩ := open_int Tryd.underlying22 hv h
  obtain ⟨h1, h2⟩ := wf_bd hw
  have e1 : IntKind.u64.min = 0 := by decide
  have e2 : IntKind.u64.max = 18446744073709551615 := by decide
  obtain ⟨x, rfl⟩ := Int.eq_ofNat_of_zero_le (show 0 ≤ n by omega)
  exact ⟨x, rfl, by omega⟩
set_option maxRecDepth 100000 in
theorem open_u16 {v : Value} {d : DataW H} {p : List MemPlace} {r : Reach} {b0 : Nat} (hv : Value.okWide Tryd.prog W r b0 55 v) (h : DataW.Trod enc Tryd.prog W base sp held 55 v d p)
    (_hz : ∀ m ∈ d.weights Tryd.prog 55, m ≤ reachBytes) : ∃ x : Nat, v = .int .u16 x ∧ x < 65536 := by
  obtain ⟨n, rfl, rfl, rfl, hw⟩ := open_int Tryd.underlying55 hv h
  obtain ⟨h1, h2⟩ := wf_bd hw
  have e1 : IntKind.u16.min = 0 := by decide
  have e2 : IntKind.u16.max = 65535 := by decide
  obtain ⟨x, rfl⟩ := Int.eq_ofNat_of_zero_le (show 0 ≤ n by omega)
  exact ⟨x, rfl, by omega⟩
set_option maxRecDepth 100000 in
theorem open_i64 {v : Value} {d : DataW H} {p : List MemPlace} {r : Reach} {b0 : Nat} (hv : Value.okWide Tryd.prog W r b0 3 v) (h : DataW.Trod enc Tryd.prog W base sp held 3 v d p)
    (_hz : ∀ m ∈ d.weights Tryd.prog 3, m ≤ reachBytes) : ∃ x : Int, v = .int .i64 x ∧ -9223372036854775808 ≤ x ∧ x ≤ 9223372036854775807 := by
  obtain ⟨n, rfl, rfl, rfl, hw⟩ := open_int Tryd.underlying3 hv h
  obtain ⟨h1, h2⟩ := wf_bd hw
  have e1 : IntKind.i64.min = -9223372036854775808 := by decide
  have e2 : IntKind.i64.max = 9223372036854775807 := by decide
  exact ⟨n, rfl, by omega, by omega⟩
set_option maxRecDepth 100000 in
theorem open_l64 {v : Value} {d : DataW H} {p : List MemPlace} {r : Reach} {b0 : Nat} (hv : Value.okWide Tryd.prog W r b0 2 v) (h : DataW.Trod enc Tryd.prog W base sp held 2 v d p)
    (_hz : ∀ m ∈ d.weights Tryd.prog 2, m ≤ reachBytes) : ∃ x : Int, v = .int .i64 x ∧ -9223372036854775808 ≤ x ∧ x ≤ 9223372036854775807 := by
  obtain ⟨n, rfl, rfl, rfl, hw⟩ := open_int Tryd.underlying2 hv h
  obtain ⟨h1, h2⟩ := wf_bd hw
  have e1 : IntKind.i64.min = -9223372036854775808 := by decide
  have e2 : IntKind.i64.max = 9223372036854775807 := by decide
  exact ⟨n, rfl, by omega, by omega⟩
end
end Go.Proofs.YtommlolhpaeioaaDoor
