/- How a snapshot that came in is opened; what its bulk bounds. -/
import Derived.Test.YtadoplgmeoghmaaDoorOpen
import Derived.Test.YtadoplgmeoghmaaDoorMfByW
import Derived.Test.YtadoplgmeoghmaaDoorRows
import Derived.OpenShut
namespace Go.Proofs.YtadoplgmeoghmaaDoor
open Go.ChangeShapes Go.WideShapes Go.ChangeAt Go.RowKit Go.Deep
set_option linter.unusedVariables false
/-- The zero snapshot. -/
def snapW : Value := .agg (([Value.string ⟨#[]⟩, .int .i64 0, .int .i64 0, .int .u64 0, .int .i64 0, .int .i64 0, .slice none 0 0, .slice none 0 0, .slice none 0 0] ++ List.replicate 32 (.int .u8 0)) : List Value).toArray
section
variable {H : Type} {enc : TypeId × Value → H} {W : World} {base : Nat} {sp : Nat → Bool} {held : Bool}
theorem drop_k {α : Type} {L M : List α} {i k : Nat} (h : (L.drop i).take k = M) : L.drop i = M ++ L.drop (i + k) := by
  rw [← h, ← List.drop_drop, List.take_append_drop]
/-- What a snapshot's numbers may be. -/
structure SnNum (s : Pl.Snap) : Prop where
  n : Pl.I64 s.n
  a : Pl.I64 s.at_
  c : 0 ≤ s.clock ∧ s.clock < 18446744073709551616
  p : Pl.I64 s.pages
  b : Pl.I64 s.blocks
theorem i64_of {n : Int} (h : (Lit.int .i64 n).wf = true) : Pl.I64 n := by
  obtain ⟨g3, g4⟩ := wf_bd h
  have e1 : IntKind.i64.min = -9223372036854775808 := by decide
  have e2 : IntKind.i64.max = 9223372036854775807 := by decide
  exact ⟨by omega, by omega⟩
theorem u64_of {n : Int} (h : (Lit.int .u64 n).wf = true) : 0 ≤ n ∧ n < 18446744073709551616 := by
  obtain ⟨g3, g4⟩ := wf_bd h
  have e1 : IntKind.u64.min = 0 := by decide
  have e2 : IntKind.u64.max = 18446744073709551615 := by decide
  omega
theorem u8_of {n : Int} (h : (Lit.int .u8 n).wf = true) : 0 ≤ n ∧ n < 256 := by
  obtain ⟨g3, g4⟩ := wf_bd h
  have e1 : IntKind.u8.min = 0 := by decide
  have e2 : IntKind.u8.max = 255 := by decide
  omega
set_option maxRecDepth 100000 in
/-- The cells of a digest. -/
theorem read_dig {fuel : Nat} {cs : List Value} {x : DataW H × List MemPlace} (h : DataW.trod enc Tryd.prog W base sp held fuel 29 cs = some x) : ∃ l : List UInt8, cs = byC l ∧ l.length = 32 := by
  obtain ⟨xs, m, -, -, hl, hxs, hi⟩ := DataW.trod_array Tryd.underlying29 h
  have hc : Tryd.prog.cellsOf 29 = 32 := by kernel_rfl
  have hc1 : Tryd.prog.cellsOf 5 = 1 := by kernel_rfl
  rw [hc] at hl
  rw [hc1] at hi
  have key : ∀ i, (hi' : i < cs.length) → ∃ b : UInt8, cs[i] = .int .u8 (b.toNat : Int) := by
    intro i hi'
    have h1 := hi i (by omega)
    rw [List.getElem?_eq_getElem (by omega), Nat.mul_one, List.drop_eq_getElem_cons hi', List.take_succ_cons, List.take_zero] at h1
    obtain ⟨n, hn, -, hw⟩ := DataW.trod_int Tryd.underlying5 h1
    obtain ⟨g1, g2⟩ := u8_of hw
    refine ⟨UInt8.ofNat n.toNat, ?_⟩
    injection hn with hn _
    rw [hn]
    congr 1
    simp [UInt8.toNat_ofNat']; omega
  refine ⟨cs.map fun v => match v with | .int _ n => UInt8.ofNat n.toNat | _ => 0, ?_, by simpa using hl⟩
  unfold byC
  rw [List.map_map]
  refine List.ext_getElem (by simp) fun i h1 h2 => ?_
  obtain ⟨b, hb⟩ := key i h1
  simp only [List.getElem_map, Function.comp]
  rw [hb]
  simp
set_option maxRecDepth 100000 in
/-- The texts of a slice that came in: their letters are of its bulk. -/
theorem bulk_strs {fuel : Nat} {A : Option Addr} {n c : Nat} {Y : List (List UInt8)} {x : DataW H × List MemPlace} (h : DataW.trod enc Tryd.prog W base sp held fuel 27 [.slice A n c] = some x) (hr : Rd W 1 A n (strs Y)) : sumLen Y ≤ Rows.uptoBulk x.1 := by
  have hY := hr.len1
  rw [strs_len] at hY
  have hc1 : Tryd.prog.cellsOf 9 = 1 := by kernel_rfl
  rcases DataW.trod_slice Tryd.underlying27 h with ⟨hcs, rfl⟩ | ⟨a, len, cap, elems, rest, m, -, hcs, rfl, -, -, -, hel, hi, -, -⟩
  · simp only [List.cons.injEq, Value.slice.injEq, and_true] at hcs
    obtain ⟨rfl, rfl, rfl⟩ := hcs
    obtain rfl : Y = [] := List.eq_nil_of_length_eq_zero hY
    simp [sumLen]
  · simp only [List.cons.injEq, Value.slice.injEq, and_true] at hcs
    obtain ⟨rfl, rfl, rfl⟩ := hcs
    have he : elems.map (·.1) = Y.map fun l => DataW.lit (H := H) (.string l) := by
      refine List.ext_getElem (by simp [hel, hY]) fun i h1 h2 => ?_
      have hin : i < n := by simpa [hel] using h1
      have hiY : i < Y.length := by omega
      have h3 := hi i hin
      rw [hc1, Nat.mul_one, List.getElem?_eq_getElem (by omega)] at h3
      obtain ⟨b, off, hA, -, hcell⟩ := hr.at1 hin
      injection hA with hA
      rw [strs_get Y i hiY] at hcell
      cases hcs' : W.cells? base (a.add i) 1 with
      | none => rw [hcs'] at h3; cases h3
      | some cs' =>
        rw [hcs'] at h3
        obtain ⟨-, hl1, hg⟩ := World.cells?_some hcs'
        have h0 := hg 0 (by omega)
        rw [hA, addr_add, addr_add, Nat.add_zero, hcell] at h0
        match cs', hl1 with
        | [c0], _ =>
          simp only [List.getElem?_cons_zero, Option.some.injEq] at h0
          subst h0
          have h3' : DataW.trod enc Tryd.prog W base sp held m 9 [.string ⟨Y[i].toArray⟩] = some elems[i] := h3
          obtain ⟨s, hs, hx, -⟩ := DataW.trod_string Tryd.underlying9 h3'
          simp only [List.cons.injEq, Value.string.injEq, and_true] at hs
          subst hs
          rw [List.getElem_map, hx, List.getElem_map]
    show sumLen Y ≤ Rows.uptoBulk (DataW.slice (elems.map (·.1)) (rest.map (·.1)))
    rw [he]
    have key : ∀ Z : List (List UInt8), Rows.uptoBulkAll (Z.map fun l => DataW.lit (H := H) (.string l)) = sumLen Z := by
      intro Z
      induction Z with
      | nil => simp [Rows.uptoBulkAll, sumLen]
      | cons z Z ih => simp only [List.map_cons, Rows.uptoBulkAll, Rows.uptoBulk, sumLen, ih]
    simp only [Rows.uptoBulk, key]; omega
/-- One slice of texts that came in. -/
structure OneS (W : World) (H : Type) (cs : List Value) (d : DataW H) (Y : List (List UInt8)) (A : Option Addr) (n c : Nat) : Prop where
  cs : cs = [.slice A n c]
  at_ : SlAt W 1 A n c (strs Y)
  len : Y.length ≤ 140737488355328
  fit : ∀ t ∈ Y, t.length ≤ 140737488355328
  bulk : sumLen Y ≤ Rows.uptoBulk d
set_option maxRecDepth 100000 in
theorem read_one {fuel : Nat} {cs : List Value} {x : DataW H × List MemPlace} (h : DataW.trod enc Tryd.prog W base sp held fuel 27 cs = some x) (hz : ∀ m ∈ x.1.weights Tryd.prog 27, m ≤ reachBytes) : ∃ Y A n c, OneS W H cs x.1 Y A n c := by
  obtain ⟨A, n, c, L, rfl, hl, hk, hr, hc, hc', hb, hn, hL⟩ := open_elems Tryd.underlying27 (k := 1) (by kernel_rfl) (by omega) StrCell read_str h hz
  obtain ⟨Y, rfl, hY⟩ := list_choose (fun l : List UInt8 => [Value.string ⟨l.toArray⟩]) (fun l => l.length ≤ reachBytes) L hL
  have hb' : Tryd.prog.bytesOf 9 = 16 := by kernel_rfl
  rw [hb'] at hb
  have hR := reach_le
  have e := flatten_one (fun l : List UInt8 => Value.string ⟨l.toArray⟩) Y
  rw [e] at hr
  rw [List.length_map] at hl
  have hr' : Rd W 1 A n (strs Y) := hr
  exact ⟨Y, A, n, c, rfl, ⟨hr', hc, hc', hn⟩, by omega, fun t ht => Nat.le_trans (hY t ht) reach_le, bulk_strs h hr'⟩
set_option maxRecDepth 100000 in
theorem read_snap {fuel : Nat} {cs : List Value} {x : DataW H × List MemPlace} (h : DataW.trod enc Tryd.prog W base sp held fuel 31 cs = some x) (hz : ∀ m ∈ x.1.weights Tryd.prog 31, m ≤ reachBytes) :
    ∃ (s : Pl.Snap) (X : Cx), cs = snL s X ∧ SnOk W s X ∧ SnFit s ∧ SnNum s ∧ s.m.length + sumLen (Pl.all3 s) ≤ Rows.uptoBulk x.1 := by
  obtain ⟨xs, n, -, rfl, hl, hlen, hff⟩ := DataW.trod_struct Tryd.underlying31 h
  have hc1 : Tryd.prog.cellsOf 9 = 1 := by kernel_rfl
  have hc2 : Tryd.prog.cellsOf 3 = 1 := by kernel_rfl
  have hc3 : Tryd.prog.cellsOf 2 = 1 := by kernel_rfl
  have hc4 : Tryd.prog.cellsOf 22 = 1 := by kernel_rfl
  have hc5 : Tryd.prog.cellsOf 28 = 3 := by kernel_rfl
  have hc6 : Tryd.prog.cellsOf 29 = 32 := by kernel_rfl
  have hc7 : Tryd.prog.cellsOf 27 = 1 := by kernel_rfl
  have hc8 : Tryd.prog.cellsOf 31 = 41 := by kernel_rfl
  rw [hc8] at hl
  have f0 := hff 0 _ rfl
  have f1 := hff 1 _ rfl
  have f2 := hff 2 _ rfl
  have f3 := hff 3 _ rfl
  have f4 := hff 4 _ rfl
  have f5 := hff 5 _ rfl
  have f6 := hff 6 _ rfl
  have f7 := hff 7 _ rfl
  have hlen8 : xs.length = 8 := hlen
  match xs, hlen8 with
  | [y0, y1, y2, y3, y4, y5, y6, y7], _ =>
    have w0 : ∀ m ∈ y0.1.weights Tryd.prog 9, m ≤ reachBytes := fun m hm => hz m (by
      simp only [DataW.weights, Tryd.underlying31]; exact DataW.weights_mem_each (j := 0) rfl rfl m hm)
    have w6 : ∀ m ∈ y6.1.weights Tryd.prog 28, m ≤ reachBytes := fun m hm => hz m (by
      simp only [DataW.weights, Tryd.underlying31]; exact DataW.weights_mem_each (j := 6) rfl rfl m hm)
    clear hz hff hlen
    obtain ⟨s0, e0, hy0, -⟩ := DataW.trod_string Tryd.underlying9 f0
    have b0 : s0.data.toList.length ≤ reachBytes := w0 _ (by rw [hy0]; simp [DataW.weights])
    obtain ⟨n1, e1, -, wf1⟩ := DataW.trod_int Tryd.underlying3 f1
    obtain ⟨n2, e2, -, wf2⟩ := DataW.trod_int Tryd.underlying2 f2
    obtain ⟨n3, e3, -, wf3⟩ := DataW.trod_int Tryd.underlying22 f3
    obtain ⟨n4, e4, -, wf4⟩ := DataW.trod_int Tryd.underlying3 f4
    obtain ⟨n5, e5, -, wf5⟩ := DataW.trod_int Tryd.underlying3 f5
    obtain ⟨zs, m, -, hz6, hl6, hlen6, hi6⟩ := DataW.trod_array Tryd.underlying28 f6
    obtain ⟨sl, e7, l7⟩ := read_dig f7
    match zs, hlen6 with
    | [z0, z1, z2], _ =>
      have g0 := hi6 0 (by omega)
      have g1 := hi6 1 (by omega)
      have g2 := hi6 2 (by omega)
      have q0 : ∀ m ∈ z0.1.weights Tryd.prog 27, m ≤ reachBytes := fun m hm => w6 m (by
        rw [hz6]; simp only [DataW.weights, Tryd.underlying28]; exact weightsAll_mem _ z0.1 (by simp) m hm)
      have q1 : ∀ m ∈ z1.1.weights Tryd.prog 27, m ≤ reachBytes := fun m hm => w6 m (by
        rw [hz6]; simp only [DataW.weights, Tryd.underlying28]; exact weightsAll_mem _ z1.1 (by simp) m hm)
      have q2 : ∀ m ∈ z2.1.weights Tryd.prog 27, m ≤ reachBytes := fun m hm => w6 m (by
        rw [hz6]; simp only [DataW.weights, Tryd.underlying28]; exact weightsAll_mem _ z2.1 (by simp) m hm)
      clear w0 w6 hi6
      obtain ⟨Y0, A0, l0, c0, o0⟩ := read_one g0 q0
      obtain ⟨Y1, A1, l1, c1, o1⟩ := read_one g1 q1
      obtain ⟨Y2, A2, l2, c2, o2⟩ := read_one g2 q2
      rw [hc7] at g0 g1 g2 o0 o1 o2
      rw [hc5] at hl6
      have d6 : (cs.drop 6).take 3 = [.slice A0 l0 c0, .slice A1 l1 c1, .slice A2 l2 c2] := by
        obtain ⟨T, hT⟩ : ∃ T, (cs.drop 6).take 3 = T := ⟨_, rfl⟩
        have a0 : (T.drop 0).take 1 = [.slice A0 l0 c0] := by rw [← hT, ← hc5]; exact o0.cs
        have a1 : (T.drop 1).take 1 = [.slice A1 l1 c1] := by rw [← hT, ← hc5]; exact o1.cs
        have a2 : (T.drop 2).take 1 = [.slice A2 l2 c2] := by rw [← hT, ← hc5]; exact o2.cs
        have hTl : T.length = 3 := by rw [← hT, List.length_take, List.length_drop, hl]; rfl
        rw [hT]
        have k0 := drop_k a0
        rw [drop_k a1, drop_k a2, List.drop_of_length_le (l := T) (i := 2 + 1) (by omega), List.drop_zero] at k0
        rw [k0]; rfl
      have d0 : (cs.drop 0).take 1 = [.string s0] := by rw [← hc1]; exact e0
      have d1 : (cs.drop 1).take 1 = [.int .i64 n1] := by rw [← hc2]; exact e1
      have d2 : (cs.drop 2).take 1 = [.int .i64 n2] := by rw [← hc3]; exact e2
      have d3 : (cs.drop 3).take 1 = [.int .u64 n3] := by rw [← hc4]; exact e3
      have d4 : (cs.drop 4).take 1 = [.int .i64 n4] := by rw [← hc2]; exact e4
      have d5 : (cs.drop 5).take 1 = [.int .i64 n5] := by rw [← hc2]; exact e5
      have d9 : (cs.drop 9).take 32 = byC sl := by rw [← hc6]; exact e7
      have hcs := drop_k d0
      rw [drop_k d1, drop_k d2, drop_k d3, drop_k d4, drop_k d5, drop_k d6, drop_k d9, List.drop_of_length_le (l := cs) (i := 9 + 32) (by omega), List.drop_zero] at hcs
      obtain ⟨sm, hsm⟩ : ∃ sm, s0.data.toList = sm := ⟨_, rfl⟩
      have hs0 : s0 = ⟨sm.toArray⟩ := by rw [← hsm, mk_toList]
      rw [hsm] at b0 hy0
      refine ⟨⟨sm, n1, n2, n3, n4, n5, Y0, Y1, Y2, sl⟩, ⟨A0, l0, c0, A1, l1, c1, A2, l2, c2⟩, ?_, ⟨o0.at_, o1.at_, o2.at_, l7⟩, ⟨Nat.le_trans b0 reach_le, o0.fit, o1.fit, o2.fit, o0.len, o1.len, o2.len⟩, ⟨i64_of wf1, i64_of wf2, u64_of wf3, i64_of wf4, i64_of wf5⟩, ?_⟩
      · rw [hcs, hs0]; simp [snL]
      · have u0 := o0.bulk
        have u1 := o1.bulk
        have u2 := o2.bulk
        have u6 : y6.1 = .agg [z0.1, z1.1, z2.1] := by rw [hz6]; rfl
        have u7 : y0.1 = .lit (.string sm) := by rw [hy0]
        show sm.length + sumLen (Y0 ++ Y1 ++ Y2) ≤ Rows.uptoBulk (DataW.agg ([y0, y1, y2, y3, y4, y5, y6, y7].map (·.1)))
        simp only [List.map_cons, List.map_nil, u6, u7, Rows.uptoBulk, Rows.uptoBulkAll, sumLen_append]
        omega
set_option maxRecDepth 100000 in
theorem open_snap {v : Value} {d : DataW H} {p : List MemPlace} {r : Reach} {b0 : Nat} (hv : Value.okWide Tryd.prog W r b0 31 v) (h : DataW.Trod enc Tryd.prog W base sp held 31 v d p)
    (hz : ∀ m ∈ d.weights Tryd.prog 31, m ≤ reachBytes) :
    ∃ (s : Pl.Snap) (X : Cx), v = .agg (snL s X).toArray ∧ SnOk W s X ∧ SnFit s ∧ SnNum s ∧ s.m.length + sumLen (Pl.all3 s) ≤ Rows.uptoBulk d := by
  obtain ⟨cs, rfl, hsz⟩ := okWide_struct Tryd.underlying31 hv
  obtain ⟨fuel, hf⟩ := h
  obtain ⟨s, X, h1, h2, h3, h4, h5⟩ := read_snap hf hz
  refine ⟨s, X, ?_, h2, h3, h4, h5⟩
  rw [← h1]; simp [Value.cells]
end
end Go.Proofs.YtadoplgmeoghmaaDoor
