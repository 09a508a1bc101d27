/- How a statement's arguments are opened: texts, and slices of texts, as lists of bytes. No condition. How a slice of whatever elements is opened: the cells of all elements in a row, each element read by a lemma of its own. How one field of a struct that came in is read. How a statement's argument of one byte is opened. No condition. -/
import Derived.Test.YtdnebgilkfafhaaGreatDoorRows
import Derived.Test.YtdnebgilkfafhaaGreatDoorBase
import Derived.ProofKit
import Derived.OpenShut
import Derived.ShutString
import Derived.ChangeOld
import Derived.SizedLaws
import Derived.SliceStrings
import Derived.Deep.Slices
namespace Go.Proofs.YtdnebgilkfafhaaGreatDoor
open Go.ChangeShapes Go.WideShapes Go.ChangeAt Go.RowKit
open Go.ChangeMaps (open_string shut_string)

theorem own : ownKnob Tryz.prog.godebug = none := by kernel_rfl
theorem laidOut : laidOutB Tryz.prog = true := by kernel_rfl

theorem reach_le : reachBytes ≤ 140737488355328 := by decide
theorem mk_toList (s : ByteArray) : (⟨s.data.toList.toArray⟩ : ByteArray) = s := by apply ByteArray.ext; simp

section
variable {H : Type} {enc : TypeId × Value → H} {W : World} {base : Nat} {sp : Nat → Bool} {held : Bool}
set_option maxRecDepth 100000 in
/-- A slice of texts. -/
theorem open_strs {v : Value} {d : DataW H} {p : List MemPlace} {r : Reach} {b0 : Nat} (hv : Value.okWide Tryz.prog W r b0 22 v) (h : DataW.Trod enc Tryz.prog W base sp held 22 v d p)
    (hz : ∀ m ∈ d.weights Tryz.prog 22, m ≤ reachBytes) :
    ∃ (A : Option Addr) (n c : Nat) (l : List (List UInt8)), v = .slice A n c ∧ Rd W 1 A n (strs l) ∧ n ≤ c ∧ c ≤ 9223372036854775807 ∧ n ≤ reachBytes ∧ (∀ s ∈ l, s.length ≤ reachBytes) ∧ (A = none → c = 0) := by
  have hlt : ∀ x ∈ p, x.block < W.heap.size := by obtain ⟨m, hm⟩ := h; exact DataW.trod_lt m _ _ _ hm
  obtain ⟨a0, len, cap, rfl⟩ := okWide_slice Tryz.underlying22 hv
  obtain ⟨fuel, hf⟩ := h
  rcases open_strings Tryz.underlying22 Tryz.underlying9 (by kernel_rfl) hf with ⟨hcs, hx⟩ | ⟨a, len', cap', ss, hcs, _, hl, hm, hss, hx, hcell, hws⟩
  · simp [Value.cells] at hcs
    obtain ⟨rfl, rfl, rfl⟩ := hcs
    exact ⟨none, 0, 0, [], rfl, Rd.nil, by omega, by omega, by omega, by simp, fun _ => rfl⟩
  · simp [Value.cells] at hcs
    obtain ⟨rfl, rfl, rfl⟩ := hcs
    simp only [Prod.mk.injEq] at hx
    obtain ⟨rfl, rfl⟩ := hx
    unfold maxLen at hm
    have hge : len ≤ ss.length := by rw [hss]; split <;> omega
    have hwm : ∀ (l : List ByteArray) (s : ByteArray), s ∈ l → s.size ∈ DataW.weightsAll (H := H) Tryz.prog 9 (Go.ChangeShapes.strs l) := by
      intro l
      induction l with
      | nil => intro s hs; simp at hs
      | cons x l ih =>
        intro s hs
        simp only [Go.ChangeShapes.strs, List.map_cons, DataW.weightsAll, DataW.weights, List.mem_append, List.mem_singleton]
        rcases List.mem_cons.1 hs with rfl | hs
        · left; exact (Array.length_toList).symm
        · right; exact ih s hs
    have hsize := hz (((ss.take len).length + (ss.drop len).length) * 16) (by
      have hb : Tryz.prog.bytesOf 9 = 16 := by kernel_rfl
      simp [DataW.weights, Tryz.underlying22, hb, Go.ChangeShapes.strs])
    have hstr : ∀ s ∈ ss.take len, s.size ≤ reachBytes := fun s hs => hz s.size (by
      simp only [DataW.weights, Tryz.underlying22, List.mem_cons, List.mem_append]
      exact .inr (.inl (hwm _ s hs)))
    rw [← List.length_append, List.take_append_drop] at hsize
    refine ⟨some a, len, cap, (ss.take len).map fun s => s.data.toList, rfl, ⟨by simp [strs]; omega, fun hn => ?_⟩, hl, hm, ?_, ?_, fun h => by cases h⟩
    · obtain ⟨b, off, spot⟩ := a
      have hc0 := hcell 0 (by omega)
      have hspot : spot = none := by simpa [Addr.add] using World.cell?_spot hc0
      subst hspot
      refine ⟨b, off, rfl, World.block_lt_of_cell? W _ (by simpa [Addr.add] using hc0), fun j hj => ?_⟩
      simp only [Go.Proofs.YtdnebgilkfafhaaGreatDoor.strs, List.length_map, List.length_take] at hj
      have h1 := hcell j (by omega)
      rw [addr_add] at h1
      rw [h1, strs_get _ j (by simp; omega)]
      simp only [List.getElem_map, List.getElem_take, mk_toList]
      rw [List.getD_eq_getElem?_getD, List.getElem?_eq_getElem (by omega)]
      rfl
    · omega
    · intro s hs
      obtain ⟨x, hx, rfl⟩ := List.mem_map.1 hs
      have := hstr x hx
      rw [Array.length_toList]; exact this

set_option maxRecDepth 100000 in
theorem open_str {v : Value} {d : DataW H} {p : List MemPlace} {r : Reach} {b0 : Nat} (hv : Value.okWide Tryz.prog W r b0 9 v) (h : DataW.Trod enc Tryz.prog W base sp held 9 v d p)
    (hz : ∀ m ∈ d.weights Tryz.prog 9, m ≤ reachBytes) : ∃ l : List UInt8, v = .string ⟨l.toArray⟩ ∧ l.length ≤ reachBytes := by
  obtain ⟨s, rfl, rfl, rfl, -⟩ := open_string Tryz.underlying9 hv h
  exact ⟨s.data.toList, by rw [mk_toList], hz _ (by simp [DataW.weights])⟩
theorem wf_bd {k : IntKind} {n : Int} (h : (Lit.int k n).wf = true) : k.min ≤ n ∧ n ≤ k.max := by simpa [Lit.wf] using h
set_option maxRecDepth 100000 in
theorem open_u64 {v : Value} {d : DataW H} {p : List MemPlace} {r : Reach} {b0 : Nat} (hv : Value.okWide Tryz.prog W r b0 123 v) (h : DataW.Trod enc Tryz.prog W base sp held 123 v d p)
    (_hz : ∀ m ∈ d.weights Tryz.prog 123, m ≤ reachBytes) : ∃ x : Nat, v = .int .u64 x ∧ x < 18446744073709551616 := by
  obtain ⟨n, rfl, rfl, rfl, hw⟩ := open_int Tryz.underlying123 hv h
  obtain ⟨h1, h2⟩ := wf_bd hw
  have e1 : IntKind.u64.min = 0 := by decide
  have e2 : IntKind.u64.max = 18446744073709551615 := by decide
  obtain ⟨x, rfl⟩ := Int.eq_ofNat_of_zero_le (show 0 ≤ n by omega)
  exact ⟨x, rfl, by omega⟩
set_option maxRecDepth 100000 in
theorem open_u16 {v : Value} {d : DataW H} {p : List MemPlace} {r : Reach} {b0 : Nat} (hv : Value.okWide Tryz.prog W r b0 235 v) (h : DataW.Trod enc Tryz.prog W base sp held 235 v d p)
    (_hz : ∀ m ∈ d.weights Tryz.prog 235, m ≤ reachBytes) : ∃ x : Nat, v = .int .u16 x ∧ x < 65536 := by
  obtain ⟨n, rfl, rfl, rfl, hw⟩ := open_int Tryz.underlying235 hv h
  obtain ⟨h1, h2⟩ := wf_bd hw
  have e1 : IntKind.u16.min = 0 := by decide
  have e2 : IntKind.u16.max = 65535 := by decide
  obtain ⟨x, rfl⟩ := Int.eq_ofNat_of_zero_le (show 0 ≤ n by omega)
  exact ⟨x, rfl, by omega⟩
set_option maxRecDepth 100000 in
theorem open_i64 {v : Value} {d : DataW H} {p : List MemPlace} {r : Reach} {b0 : Nat} (hv : Value.okWide Tryz.prog W r b0 3 v) (h : DataW.Trod enc Tryz.prog W base sp held 3 v d p)
    (_hz : ∀ m ∈ d.weights Tryz.prog 3, m ≤ reachBytes) : ∃ x : Int, v = .int .i64 x ∧ -9223372036854775808 ≤ x ∧ x ≤ 9223372036854775807 := by
  obtain ⟨n, rfl, rfl, rfl, hw⟩ := open_int Tryz.underlying3 hv h
  obtain ⟨h1, h2⟩ := wf_bd hw
  have e1 : IntKind.i64.min = -9223372036854775808 := by decide
  have e2 : IntKind.i64.max = 9223372036854775807 := by decide
  exact ⟨n, rfl, by omega, by omega⟩
set_option maxRecDepth 100000 in
theorem open_l64 {v : Value} {d : DataW H} {p : List MemPlace} {r : Reach} {b0 : Nat} (hv : Value.okWide Tryz.prog W r b0 2 v) (h : DataW.Trod enc Tryz.prog W base sp held 2 v d p)
    (_hz : ∀ m ∈ d.weights Tryz.prog 2, m ≤ reachBytes) : ∃ x : Int, v = .int .i64 x ∧ -9223372036854775808 ≤ x ∧ x ≤ 9223372036854775807 := by
  obtain ⟨n, rfl, rfl, rfl, hw⟩ := open_int Tryz.underlying2 hv h
  obtain ⟨h1, h2⟩ := wf_bd hw
  have e1 : IntKind.i64.min = -9223372036854775808 := by decide
  have e2 : IntKind.i64.max = 9223372036854775807 := by decide
  exact ⟨n, rfl, by omega, by omega⟩
end
end Go.Proofs.YtdnebgilkfafhaaGreatDoor
namespace Go.Proofs.YtdnebgilkfafhaaGreatDoor
open Go.ChangeShapes Go.WideShapes Go.ChangeAt Go.RowKit Go.Deep

theorem list_choose {α β : Type} (f : β → α) (P : β → Prop) : ∀ (L : List α), (∀ x ∈ L, ∃ y, x = f y ∧ P y) → ∃ Y : List β, L = Y.map f ∧ ∀ y ∈ Y, P y
  | [], _ => ⟨[], rfl, fun _ h => by cases h⟩
  | x :: L, h => by
    obtain ⟨y, rfl, hy⟩ := h x (by simp)
    obtain ⟨Y, rfl, hY⟩ := list_choose f P L (fun z hz => h z (by simp [hz]))
    exact ⟨y :: Y, rfl, fun z hz => by
      rcases List.mem_cons.1 hz with rfl | hz
      · exact hy
      · exact hY z hz⟩

theorem flatten_one {α β : Type} (f : β → α) : ∀ Y : List β, (Y.map fun y => [f y]).flatten = Y.map f
  | [] => rfl
  | y :: Y => by simp [flatten_one f Y]
theorem flatten_get {α : Type} (k : Nat) : ∀ (L : List (List α)), (∀ x ∈ L, x.length = k) → ∀ (i j : Nat) (h : i < L.length), j < k → L.flatten[i * k + j]? = L[i][j]?
  | [], _, i, _, h, _ => by simp at h
  | x :: L, hL, 0, j, _, hj => by
    have hx := hL x (by simp)
    simp only [List.flatten_cons, Nat.zero_mul, Nat.zero_add, List.getElem_cons_zero]
    rw [List.getElem?_append_left (by omega)]
  | x :: L, hL, i + 1, j, h, hj => by
    have hx := hL x (by simp)
    simp only [List.flatten_cons, List.getElem_cons_succ]
    rw [List.getElem?_append_right (by rw [hx, Nat.add_mul]; omega)]
    have e : (i + 1) * k + j - x.length = i * k + j := by rw [hx, Nat.add_mul]; omega
    rw [e]
    exact flatten_get k L (fun y hy => hL y (by simp [hy])) i j (by simpa using h) hj
theorem flatten_len {α : Type} (k : Nat) : ∀ (L : List (List α)), (∀ x ∈ L, x.length = k) → L.flatten.length = L.length * k
  | [], _ => by simp
  | x :: L, hL => by
    have hx := hL x (by simp)
    simp only [List.flatten_cons, List.length_append, List.length_cons, flatten_len k L (fun y hy => hL y (by simp [hy])), hx, Nat.add_mul]
    omega

section
variable {H : Type} {enc : TypeId × Value → H} {W : World} {base : Nat} {sp : Nat → Bool} {held : Bool} {P : Program}

theorem weightsAll_mem {e : TypeId} : ∀ (l : List (DataW H)) (d : DataW H), d ∈ l → ∀ m ∈ d.weights P e, m ∈ DataW.weightsAll P e l
  | x :: l, d, hd, m, hm => by
    simp only [DataW.weightsAll, List.mem_append]
    rcases List.mem_cons.1 hd with rfl | hd
    · exact .inl hm
    · exact .inr (weightsAll_mem l d hd m hm)

/-- A slice whose elements read each by R: all cells in a row. -/
theorem open_elems {t e : TypeId} {k : Nat} (ht : P.underlying t = some (.slice e)) (hk : P.cellsOf e = k) (hk0 : 0 < k) (R : List Value → Prop)
    (hR : ∀ (fuel : Nat) (cs : List Value) (x : DataW H × List MemPlace), DataW.trod enc P W base sp held fuel e cs = some x → (∀ m ∈ x.1.weights P e, m ≤ reachBytes) → R cs)
    {fuel : Nat} {cs : List Value} {x : DataW H × List MemPlace} (h : DataW.trod enc P W base sp held fuel t cs = some x) (hz : ∀ m ∈ x.1.weights P t, m ≤ reachBytes) :
    ∃ (A : Option Addr) (n c : Nat) (L : List (List Value)), cs = [.slice A n c] ∧ L.length = n ∧ (∀ x ∈ L, x.length = k) ∧ Rd W k A n L.flatten ∧ n ≤ c ∧ c ≤ 9223372036854775807 ∧ n * P.bytesOf e ≤ reachBytes ∧ (A = none → c = 0) ∧ ∀ x ∈ L, R x := by
  rcases open_slice ht h with ⟨rfl, rfl⟩ | ⟨a, len, cap, m, n, D, Pl, rfl, hb, hl, hm, hmm, rfl, hi⟩
  · exact ⟨none, 0, 0, [], rfl, rfl, by simp, Rd.nil, by omega, by omega, by simp, fun _ => rfl, by simp⟩
  · have hlm : len ≤ m := by rw [hmm]; split <;> omega
    have hcs : ∀ i, i < len → ∃ cs', W.cells? base (a.add (i * k)) k = some cs' ∧ DataW.trod enc P W base sp held n e cs' = some (D i, Pl i) := fun i h => by
      have := hi i (by omega); rwa [hk] at this
    let L : List (List Value) := (List.range len).map fun i => (W.cells? base (a.add (i * k)) k).getD []
    have hLi : ∀ i (h : i < len), W.cells? base (a.add (i * k)) k = some (L[i]'(by simpa [L] using h)) := fun i h => by
      obtain ⟨cs', h1, h2⟩ := hcs i h
      simp [L, h1]
    have hLl : L.length = len := by simp [L]
    have hLk : ∀ x ∈ L, x.length = k := fun x hx => by
      obtain ⟨i, hi', rfl⟩ := List.getElem_of_mem hx
      exact (World.cells?_some (hLi i (by omega))).2.1
    unfold maxLen at hm
    refine ⟨some a, len, cap, L, rfl, hLl, hLk, ⟨by rw [flatten_len k L hLk, hLl], fun hn => ?_⟩, hl, hm, ?_, (fun h => by cases h), fun x hx => ?_⟩
    · obtain ⟨b, off, spot⟩ := a
      have h0 := (World.cells?_some (hLi 0 hn)).2.2 0 hk0
      have hL0 : (L[0]'(by omega))[0]? = some ((L[0]'(by omega))[0]'(by rw [hLk _ (List.getElem_mem _)]; exact hk0)) := List.getElem?_eq_getElem _
      rw [hL0] at h0
      have hspot : spot = none := by simpa [Addr.add] using World.cell?_spot h0
      subst hspot
      refine ⟨b, off, rfl, World.block_lt_of_cell? W _ (by simpa [Addr.add] using h0), fun j hj => ?_⟩
      rw [flatten_len k L hLk, hLl] at hj
      have hq : j / k < len := (Nat.div_lt_iff_lt_mul hk0).2 hj
      have hr : j % k < k := Nat.mod_lt _ hk0
      have h1 := (World.cells?_some (hLi (j / k) hq)).2.2 (j % k) hr
      have hjj : j / k * k + j % k = j := by rw [Nat.mul_comm]; exact Nat.div_add_mod j k
      have h2 := flatten_get k L hLk (j / k) (j % k) (by omega) hr
      rw [hjj] at h2
      rw [addr_add, addr_add, Nat.add_assoc, hjj] at h1
      rw [h1, h2]
    · refine Nat.le_trans ?_ (hz ((len + (m - len)) * P.bytesOf e) ?_)
      · exact Nat.mul_le_mul_right _ (by omega)
      · simp [DataW.weights, ht]
    · obtain ⟨i, hi', rfl⟩ := List.getElem_of_mem hx
      obtain ⟨cs', h1, h2⟩ := hcs i (by omega)
      have h3 := hLi i (by omega)
      rw [h1] at h3
      injection h3 with h3
      rw [← h3]
      refine hR n cs' _ h2 fun m' hm' => hz m' ?_
      simp only [DataW.weights, ht, List.mem_cons, List.mem_append]
      exact .inr (.inl (weightsAll_mem _ (D i) (List.mem_map.2 ⟨i, by simp; omega, rfl⟩) m' hm'))
end

section
variable {H : Type} {enc : TypeId × Value → H} {W : World} {base : Nat} {sp : Nat → Bool} {held : Bool}

/-- A text's cell. -/
def StrCell (cs : List Value) : Prop := ∃ l : List UInt8, cs = [.string ⟨l.toArray⟩] ∧ l.length ≤ reachBytes
set_option maxRecDepth 100000 in
theorem read_str (fuel : Nat) (cs : List Value) (x : DataW H × List MemPlace) (h : DataW.trod enc Tryz.prog W base sp held fuel 9 cs = some x) (hz : ∀ m ∈ x.1.weights Tryz.prog 9, m ≤ reachBytes) : StrCell cs := by
  obtain ⟨s, rfl, rfl, -⟩ := DataW.trod_string Tryz.underlying9 h
  exact ⟨s.data.toList, by rw [mk_toList], hz _ (by simp [DataW.weights])⟩

/-- A slice of texts, as it stands in memory. -/
structure SlS where
  A : Option Addr
  n : Nat
  c : Nat
  l : List (List UInt8)
def SlS.val (s : SlS) : Value := .slice s.A s.n s.c
def SlS.Ok (W : World) (s : SlS) : Prop := Rd W 1 s.A s.n (strs s.l) ∧ s.n ≤ 140737488355328 ∧ ∀ x ∈ s.l, x.length ≤ 140737488355328
def StrsCell (W : World) (cs : List Value) : Prop := ∃ s : SlS, cs = [s.val] ∧ s.Ok W
set_option maxRecDepth 100000 in
theorem read_strs (fuel : Nat) (cs : List Value) (x : DataW H × List MemPlace) (h : DataW.trod enc Tryz.prog W base sp held fuel 22 cs = some x) (hz : ∀ m ∈ x.1.weights Tryz.prog 22, m ≤ reachBytes) : StrsCell W cs := by
  obtain ⟨A, n, c, L, rfl, hl, hk, hr, hc, hc', hb, -, hL⟩ := open_elems Tryz.underlying22 (k := 1) (by kernel_rfl) (by omega) StrCell read_str h hz
  obtain ⟨Y, rfl, hY⟩ := list_choose (fun l : List UInt8 => [Value.string ⟨l.toArray⟩]) (fun l => l.length ≤ reachBytes) L hL
  have hb' : Tryz.prog.bytesOf 9 = 16 := by kernel_rfl
  rw [hb'] at hb
  have hR := reach_le
  refine ⟨⟨A, n, c, Y⟩, rfl, ?_, ?_, fun x hx => Nat.le_trans (hY x hx) reach_le⟩
  · have e := flatten_one (fun l : List UInt8 => Value.string ⟨l.toArray⟩) Y
    rw [e] at hr; exact hr
  · simp only; omega

end
end Go.Proofs.YtdnebgilkfafhaaGreatDoor
namespace Go.Proofs.YtdnebgilkfafhaaGreatDoor
open Go.ChangeShapes Go.WideShapes Go.ChangeAt Go.RowKit Go.Deep
section
variable {H : Type} {enc : TypeId × Value → H} {W : World} {base : Nat} {sp : Nat → Bool} {held : Bool} {P : Program}
/-- One field of a struct. -/
theorem struct_field {t : TypeId} {fs : Array Field} {fuel : Nat} {cs : List Value} {x : DataW H × List MemPlace} (ht : P.underlying t = some (.struct fs)) (h : DataW.trod enc P W base sp held fuel t cs = some x)
    (hz : ∀ m ∈ x.1.weights P t, m ≤ reachBytes) (i : Nat) (f : Field) (hf : fs[i]? = some f) :
    ∃ n y, DataW.trod enc P W base sp held n f.type ((cs.drop f.offset).take (P.cellsOf f.type)) = some y ∧ ∀ m ∈ y.1.weights P f.type, m ≤ reachBytes := by
  obtain ⟨xs, n, -, rfl, hl, hlen, hff⟩ := DataW.trod_struct ht h
  have hi : i < fs.size := by
    rcases Nat.lt_or_ge i fs.size with h | h
    · exact h
    · rw [Array.getElem?_eq_none h] at hf; cases hf
  have h1 := hff i f hf
  rw [List.getElem?_eq_getElem (by omega)] at h1
  refine ⟨n, _, h1, fun m hm => hz m ?_⟩
  simp only [DataW.weights, ht]
  refine DataW.weights_mem_each (j := i) (t := f.type) ?_ (d := (xs[i]'(by omega)).1) ?_ m hm
  · rw [List.getElem?_map, Array.getElem?_toList, hf]; rfl
  · rw [List.getElem?_map, List.getElem?_eq_getElem (by omega)]; rfl
theorem struct_len {t : TypeId} {fs : Array Field} {fuel : Nat} {cs : List Value} {x : DataW H × List MemPlace} (ht : P.underlying t = some (.struct fs)) (h : DataW.trod enc P W base sp held fuel t cs = some x) : cs.length = P.cellsOf t := by
  obtain ⟨xs, n, -, rfl, hl, -⟩ := DataW.trod_struct ht h
  exact hl
/-- A slice's value, out of the one cell that it is. -/
theorem bool_cell {t : TypeId} (ht : P.underlying t = some .bool) {fuel : Nat} {cs : List Value} {x : DataW H × List MemPlace} (h : DataW.trod enc P W base sp held fuel t cs = some x) : ∃ b, cs = [.bool b] := by
  obtain ⟨b, hb, -⟩ := DataW.trod_bool ht h
  exact ⟨b, hb⟩
end
end Go.Proofs.YtdnebgilkfafhaaGreatDoor
namespace Go.Proofs.YtdnebgilkfafhaaGreatDoor
open Go.ChangeShapes Go.WideShapes Go.ChangeAt Go.RowKit
section
variable {H : Type} {enc : TypeId × Value → H} {W : World} {base : Nat} {sp : Nat → Bool} {held : Bool}
set_option maxRecDepth 100000 in
theorem open_u8 {v : Value} {d : DataW H} {p : List MemPlace} {r : Reach} {b0 : Nat} (hv : Value.okWide Tryz.prog W r b0 5 v) (h : DataW.Trod enc Tryz.prog W base sp held 5 v d p)
    (_hz : ∀ m ∈ d.weights Tryz.prog 5, m ≤ reachBytes) : ∃ x : Nat, v = .int .u8 x ∧ x < 256 := by
  obtain ⟨n, rfl, rfl, rfl, hw⟩ := open_int Tryz.underlying5 hv h
  obtain ⟨h1, h2⟩ := wf_bd hw
  have e1 : IntKind.u8.min = 0 := by decide
  have e2 : IntKind.u8.max = 255 := by decide
  obtain ⟨x, rfl⟩ := Int.eq_ofNat_of_zero_le (show 0 ≤ n by omega)
  exact ⟨x, rfl, by omega⟩
end
end Go.Proofs.YtdnebgilkfafhaaGreatDoor
