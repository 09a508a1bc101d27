/- What the listed package-level variables give the walks of WireSends: hash's two tables, the table of powers of ten, strconv's two errors; a world that meets the condition. How a channel that came in is opened. -/
import Derived.Test.YtadoplgmeoghmaaDoorLaid
import Derived.Test.YtadoplgmeoghmaaDoorHashS
import Derived.Test.YtadoplgmeoghmaaDoorOpenSn
import Derived.Test.YtadoplgmeoghmaaDoorSend
namespace Go.Proofs.YtadoplgmeoghmaaDoor
open Go.ChangeShapes Go.WideShapes Go.ChangeAt Go.RowKit
set_option maxRecDepth 100000
theorem glob_of_var {P : Program} {W : World} {n : String} {g : Nat} {C : List Value} (hg : P.globalNamed n = some g) (h : W.var? P n = some C.toArray) : GlobC W g C := by
  unfold World.var? at h
  rw [hg] at h
  simp only [Option.bind_some] at h
  unfold GlobC
  split at h
  · rename_i c t fz hh
    exact ⟨t, fz, by rw [hh]; cases h; rfl⟩
  · cases h
theorem g_eight : Tryd.prog.globalNamed "hibernacle/hash.eight" = some 0 := by kernel_rfl
theorem t_eight : (Tryd.prog.globals[0]?).map (·.type) = some 95 := by kernel_rfl
theorem g_rows : Tryd.prog.globalNamed "hibernacle/hash.rows" = some 1 := by kernel_rfl
theorem t_rows : (Tryd.prog.globals[1]?).map (·.type) = some 141 := by kernel_rfl
theorem flat_of (m : Nat) : ∀ (R : List (List Value)) (cs : List Value), cs.length = R.length * m → (∀ i, i < R.length → (cs.drop (i * m)).take m = R.getD i []) → cs = R.flatten
  | [], cs, hl, _ => by
    have : cs = [] := List.eq_nil_of_length_eq_zero (by simpa using hl)
    rw [this]; rfl
  | r :: R, cs, hl, h => by
    have h0 := h 0 (by simp)
    simp only [Nat.zero_mul, List.drop_zero, List.getD_cons_zero] at h0
    have ih := flat_of m R (cs.drop m) (by rw [List.length_drop, hl, List.length_cons, Nat.succ_mul]; omega) (fun i hi => by
      have := h (i + 1) (by simpa using hi)
      rw [List.drop_drop, show m + i * m = (i + 1) * m by rw [Nat.succ_mul, Nat.add_comm]]
      simpa using this)
    rw [List.flatten_cons, ← ih, ← h0, List.take_append_drop]
/-- An array of arrays of integers that reads as the table holds its numbers, row by row. -/
theorem cells_of_tab2 {H : Type} {enc : TypeId × Value → H} {P : Program} {w : World} {base : Nat} {sp : Nat → Bool} {held : Bool} {fuel : Nat} {t r e : TypeId} {n m : Nat} {k : IntKind} {cs : List Value} {zs : List (List Int)} {p : List MemPlace}
    (ht : P.underlying t = some (.array n r)) (hr : P.underlying r = some (.array m e)) (he : P.underlying e = some (.int k)) (hce : P.cellsOf e = 1) (hcr : P.cellsOf r = m) (hct : P.cellsOf t = n * m)
    (h : DataW.trod enc P w base sp held fuel t cs = some (.agg (zs.map (Lib.tabData k)), p)) : cs = (zs.map fun z => z.map fun x => Value.int k x).flatten := by
  cases fuel with
  | zero => simp [DataW.trod] at h
  | succ fuel =>
    simp only [DataW.trod, ht, hcr, hct] at h
    split at h
    · rename_i hl
      obtain ⟨xs, hm, hx⟩ := Option.map_eq_some_iff.1 h
      have hxs : xs.map (·.1) = zs.map (Lib.tabData k) := by
        have := congrArg Prod.fst hx
        simpa using this
      have hxl : xs.length = n := by simpa using Lib.mapM_length hm
      have hzl : zs.length = n := by
        have := congrArg List.length hxs
        simp at this
        omega
      have hrow : ∀ i, i < n → (cs.drop (i * m)).take m = (zs.getD i []).map fun x => Value.int k x := by
        intro i hi
        obtain ⟨b, hb, hf⟩ := Lib.mapM_at hm i i (by simp [hi])
        obtain ⟨b1, b2⟩ := b
        have h2 : (xs.map (·.1))[i]? = some b1 := by simp [hb]
        rw [hxs] at h2
        simp only [List.getElem?_map, Option.map_eq_some_iff] at h2
        obtain ⟨z, hz', rfl⟩ := h2
        have := Lib.cells_of_tab hr he hce hcr hf
        rw [this, List.getD_eq_getElem?_getD, hz']; rfl
      refine flat_of m _ cs (by rw [List.length_map, hzl]; exact hl) fun i hi => ?_
      rw [List.length_map, hzl] at hi
      rw [hrow i hi, List.getD_eq_getElem?_getD, List.getD_eq_getElem?_getD, List.getElem?_map, List.getElem?_eq_getElem (by omega)]
      rfl
    · cases h
def rowsZ : List (List Int) := Pl.rowsB.map fun r => r.map fun (x : Nat) => (x : Int)
def tabsW : List (String × DataW Unit) := [("math/bits.deBruijn32tab", Rows.laid_math_bits_deBruijn32tab), ("math/bits.deBruijn64tab", Rows.laid_math_bits_deBruijn64tab), ("hibernacle/hash.eight", Rows.laid_hibernacle_hash_eight), ("hibernacle/hash.rows", Rows.laid_hibernacle_hash_rows), ("internal/strconv.uint64pow10", Rows.laid_internal_strconv_uint64pow10), ("strconv.ErrRange", Rows.laid_strconv_ErrRange), ("strconv.ErrSyntax", Rows.laid_strconv_ErrSyntax)]
theorem eight_tab : (Rows.laid_hibernacle_hash_eight : DataW Unit) = Lib.tabData .u32 (Pl.eight.map fun (x : Nat) => (x : Int)) := rfl
theorem rows_tab : (Rows.laid_hibernacle_hash_rows : DataW Unit) = .agg (rowsZ.map (Lib.tabData .u8)) := rfl
theorem vhash_e {W : World} {r : List (String × DataW Unit)} (h : laidMet Tryd.prog (("hibernacle/hash.eight", Rows.laid_hibernacle_hash_eight) :: r) W) : GlobC W 0 (u32s Pl.eight) := by
  rw [eight_tab] at h
  have := Lib.tabIs_of_head g_eight t_eight Tryd.underlying95 Tryd.underlying93 (by kernel_rfl) (by kernel_rfl) h
  refine glob_of_var g_eight (this.trans ?_)
  simp [u32s]
theorem vhash_r {W : World} {r : List (String × DataW Unit)} (h : laidMet Tryd.prog (("hibernacle/hash.rows", Rows.laid_hibernacle_hash_rows) :: r) W) : GlobC W 1 (u8s rowsU) := by
  rw [rows_tab] at h
  obtain ⟨ps, ⟨g', t', cs, fuel, p, q, hg', ht', hvar, hd, _, _⟩, _⟩ := h
  obtain rfl := Option.some.inj (g_rows.symm.trans hg')
  obtain rfl := Option.some.inj (t_rows.symm.trans ht')
  have hc := cells_of_tab2 Tryd.underlying141 Tryd.underlying140 Tryd.underlying5 (by kernel_rfl) (by kernel_rfl) (by kernel_rfl) hd
  refine glob_of_var g_rows ?_
  have he : (rowsZ.map fun z => z.map fun x => Value.int .u8 x).flatten = u8s rowsU := by kernel_rfl
  rw [hvar]
  refine congrArg some (Array.toList_inj.1 ?_)
  rw [hc, he]
theorem vnum_ofW {W : World} (h : laidMetH Tryd.prog tabsW W) : VNum W ∧ VHash W := by
  have h' : laidMet Tryd.prog tabsW W := h
  have h2 := h'.tail.tail
  have h3 := h2.tail
  have h4 := h3.tail
  exact ⟨⟨vtab_of h4, isErr_of h4.tail.tail (by kernel_rfl) (by kernel_rfl), isErr_of h4.tail (by kernel_rfl) (by kernel_rfl)⟩, ⟨vhash_e h2, vhash_r h3⟩⟩
theorem door_metW (os : Os) (args : Array Value) : laidMetH Tryd.prog tabsW ((World.doorLaid Tryd.prog 100 os).forCall (fun _ _ => 0) ⟨#[], args, []⟩).memory :=
  laidMetH_of_parts3 (fuel := 8) (laidMet_of_run' 8 (by kernel_rfl) (by kernel_rfl)) (by kernel_rfl) (by kernel_rfl)
end Go.Proofs.YtadoplgmeoghmaaDoor
namespace Go.Proofs.YtadoplgmeoghmaaDoor
open Go.ChangeShapes Go.WideShapes Go.ChangeAt Go.RowKit Go.Deep
set_option linter.unusedVariables false
/-- The zero channel. -/
def chanW : Value := .agg noCh.toArray
section
variable {H : Type} {enc : TypeId × Value → H} {W : World} {base : Nat} {sp : Nat → Bool} {held : Bool}
set_option maxRecDepth 100000 in
/-- The cells of a key. -/
theorem read_key {fuel : Nat} {cs : List Value} {x : DataW H × List MemPlace} (h : DataW.trod enc Tryd.prog W base sp held fuel 24 cs = some x) : ∃ l : List UInt8, cs = u8s l ∧ l.length = 32 := by
  obtain ⟨xs, m, -, -, hl, hxs, hi⟩ := DataW.trod_array Tryd.underlying24 h
  have hc : Tryd.prog.cellsOf 24 = 32 := by kernel_rfl
  have hc1 : Tryd.prog.cellsOf 5 = 1 := by kernel_rfl
  rw [hc] at hl
  rw [hc1] at hi
  have key : ∀ i, (hi' : i < cs.length) → ∃ b : UInt8, cs[i] = .int .u8 (b.toNat : Int) := by
    intro i hi'
    have h1 := hi i (by omega)
    rw [List.getElem?_eq_getElem (by omega), Nat.mul_one, List.drop_eq_getElem_cons hi', List.take_succ_cons, List.take_zero] at h1
    obtain ⟨n, hn, -, hw⟩ := DataW.trod_int Tryd.underlying5 h1
    obtain ⟨g1, g2⟩ := u8_of hw
    refine ⟨UInt8.ofNat n.toNat, ?_⟩
    injection hn with hn _
    rw [hn]
    congr 1
    simp [UInt8.toNat_ofNat']; omega
  refine ⟨cs.map fun v => match v with | .int _ n => UInt8.ofNat n.toNat | _ => 0, ?_, by simpa using hl⟩
  unfold u8s
  rw [List.map_map]
  refine List.ext_getElem (by simp) fun i h1 h2 => ?_
  obtain ⟨b, hb⟩ := key i h1
  simp only [List.getElem_map, Function.comp]
  rw [hb]
  simp
set_option maxRecDepth 100000 in
theorem open_chan {v : Value} {d : DataW H} {p : List MemPlace} {r : Reach} {b0 : Nat} (hv : Value.okWide Tryd.prog W r b0 26 v) (h : DataW.Trod enc Tryd.prog W base sp held 26 v d p)
    (hz : ∀ m ∈ d.weights Tryd.prog 26, m ≤ reachBytes) :
    ∃ (m : List UInt8) (n : Nat) (k : List UInt8), v = .agg (chL m n k).toArray ∧ m.length ≤ reachBytes ∧ n < 18446744073709551616 ∧ k.length = 32 := by
  obtain ⟨ca, rfl, hsz⟩ := okWide_struct Tryd.underlying26 hv
  obtain ⟨fuel, hf⟩ := h
  obtain ⟨cs, hcs0⟩ : ∃ cs, ca.toList = cs := ⟨_, rfl⟩
  have hca : ca = cs.toArray := by rw [← hcs0]
  simp only [Value.cells] at hf
  rw [hcs0] at hf
  obtain ⟨xs, n, -, hx, hl, hlen, hff⟩ := DataW.trod_struct Tryd.underlying26 hf
  have hc1 : Tryd.prog.cellsOf 9 = 1 := by kernel_rfl
  have hc2 : Tryd.prog.cellsOf 22 = 1 := by kernel_rfl
  have hc3 : Tryd.prog.cellsOf 24 = 32 := by kernel_rfl
  have hc5 : Tryd.prog.cellsOf 26 = 34 := by kernel_rfl
  rw [hc5] at hl
  have f0 := hff 0 _ rfl
  have f1 := hff 1 _ rfl
  have f2 := hff 2 _ rfl
  have hlen3 : xs.length = 3 := hlen
  match xs, hlen3 with
  | [y0, y1, y2], _ =>
    have hd : d = .agg [y0.1, y1.1, y2.1] := (Prod.mk.inj hx).1
    have w0 : ∀ m ∈ y0.1.weights Tryd.prog 9, m ≤ reachBytes := fun m hm => hz m (by
      rw [hd]; simp only [DataW.weights, Tryd.underlying26]; exact DataW.weights_mem_each (j := 0) rfl rfl m hm)
    obtain ⟨s0, e0, hy0, -⟩ := DataW.trod_string Tryd.underlying9 f0
    have b0 : s0.data.toList.length ≤ reachBytes := w0 _ (by rw [hy0]; simp [DataW.weights])
    obtain ⟨n1, e1, -, wf1⟩ := DataW.trod_int Tryd.underlying22 f1
    obtain ⟨kl, e2, hkl⟩ := read_key f2
    have d0 : (cs.drop 0).take 1 = [.string s0] := by rw [← hc1]; exact e0
    have d1 : (cs.drop 1).take 1 = [.int .u64 n1] := by rw [← hc2]; exact e1
    have d2 : (cs.drop 2).take 32 = u8s kl := by rw [← hc3]; exact e2
    have hcs := drop_k d0
    rw [drop_k d1, drop_k d2, List.drop_of_length_le (l := cs) (i := 2 + 32) (by omega), List.drop_zero] at hcs
    obtain ⟨sm, hsm⟩ : ∃ sm, s0.data.toList = sm := ⟨_, rfl⟩
    have hs0 : s0 = ⟨sm.toArray⟩ := by rw [← hsm, mk_toList]
    rw [hsm] at b0
    obtain ⟨g1, g2⟩ := u64_of wf1
    obtain ⟨nn, rfl⟩ : ∃ nn : Nat, n1 = (nn : Int) := ⟨n1.toNat, by omega⟩
    refine ⟨sm, nn, kl, ?_, b0, by omega, hkl⟩
    rw [hca, hcs, hs0]
    simp [chL]
end
end Go.Proofs.YtadoplgmeoghmaaDoor
