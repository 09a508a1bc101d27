/- What the listed package-level variables give the walks of Spread's laws: hash's two tables, the table of powers of ten, strconv's two errors; a world that meets the condition. -/
import Derived.Test.YtdnebgilkfafhaaGreatDoorLaid
import Derived.Test.YtdnebgilkfafhaaGreatDoorHashS
namespace Go.Proofs.YtdnebgilkfafhaaGreatDoor
open Go.ChangeShapes Go.WideShapes Go.ChangeAt Go.RowKit
set_option maxRecDepth 100000
theorem glob_of_var {P : Program} {W : World} {n : String} {g : Nat} {C : List Value} (hg : P.globalNamed n = some g) (h : W.var? P n = some C.toArray) : GlobC W g C := by
  unfold World.var? at h
  rw [hg] at h
  simp only [Option.bind_some] at h
  unfold GlobC
  split at h
  · rename_i c t fz hh
    exact ⟨t, fz, by rw [hh]; cases h; rfl⟩
  · cases h
theorem g_eight : Tryz.prog.globalNamed "hibernacle/hash.eight" = some 0 := by kernel_rfl
theorem t_eight : (Tryz.prog.globals[0]?).map (·.type) = some 90 := by kernel_rfl
theorem g_rows : Tryz.prog.globalNamed "hibernacle/hash.rows" = some 1 := by kernel_rfl
theorem t_rows : (Tryz.prog.globals[1]?).map (·.type) = some 214 := by kernel_rfl
theorem flat_of (m : Nat) : ∀ (R : List (List Value)) (cs : List Value), cs.length = R.length * m → (∀ i, i < R.length → (cs.drop (i * m)).take m = R.getD i []) → cs = R.flatten
  | [], cs, hl, _ => by
    have : cs = [] := List.eq_nil_of_length_eq_zero (by simpa using hl)
    rw [this]; rfl
  | r :: R, cs, hl, h => by
    have h0 := h 0 (by simp)
    simp only [Nat.zero_mul, List.drop_zero, List.getD_cons_zero] at h0
    have ih := flat_of m R (cs.drop m) (by rw [List.length_drop, hl, List.length_cons, Nat.succ_mul]; omega) (fun i hi => by
      have := h (i + 1) (by simpa using hi)
      rw [List.drop_drop, show m + i * m = (i + 1) * m by rw [Nat.succ_mul, Nat.add_comm]]
      simpa using this)
    rw [List.flatten_cons, ← ih, ← h0, List.take_append_drop]
/-- An array of arrays of integers that reads as the table holds its numbers, row by row. -/
theorem cells_of_tab2 {H : Type} {enc : TypeId × Value → H} {P : Program} {w : World} {base : Nat} {sp : Nat → Bool} {held : Bool} {fuel : Nat} {t r e : TypeId} {n m : Nat} {k : IntKind} {cs : List Value} {zs : List (List Int)} {p : List MemPlace}
    (ht : P.underlying t = some (.array n r)) (hr : P.underlying r = some (.array m e)) (he : P.underlying e = some (.int k)) (hce : P.cellsOf e = 1) (hcr : P.cellsOf r = m) (hct : P.cellsOf t = n * m)
    (h : DataW.trod enc P w base sp held fuel t cs = some (.agg (zs.map (Lib.tabData k)), p)) : cs = (zs.map fun z => z.map fun x => Value.int k x).flatten := by
  cases fuel with
  | zero => simp [DataW.trod] at h
  | succ fuel =>
    simp only [DataW.trod, ht, hcr, hct] at h
    split at h
    · rename_i hl
      obtain ⟨xs, hm, hx⟩ := Option.map_eq_some_iff.1 h
      have hxs : xs.map (·.1) = zs.map (Lib.tabData k) := by
        have := congrArg Prod.fst hx
        simpa using this
      have hxl : xs.length = n := by simpa using Lib.mapM_length hm
      have hzl : zs.length = n := by
        have := congrArg List.length hxs
        simp at this
        omega
      have hrow : ∀ i, i < n → (cs.drop (i * m)).take m = (zs.getD i []).map fun x => Value.int k x := by
        intro i hi
        obtain ⟨b, hb, hf⟩ := Lib.mapM_at hm i i (by simp [hi])
        obtain ⟨b1, b2⟩ := b
        have h2 : (xs.map (·.1))[i]? = some b1 := by simp [hb]
        rw [hxs] at h2
        simp only [List.getElem?_map, Option.map_eq_some_iff] at h2
        obtain ⟨z, hz', rfl⟩ := h2
        have := Lib.cells_of_tab hr he hce hcr hf
        rw [this, List.getD_eq_getElem?_getD, hz']; rfl
      refine flat_of m _ cs (by rw [List.length_map, hzl]; exact hl) fun i hi => ?_
      rw [List.length_map, hzl] at hi
      rw [hrow i hi, List.getD_eq_getElem?_getD, List.getD_eq_getElem?_getD, List.getElem?_map, List.getElem?_eq_getElem (by omega)]
      rfl
    · cases h
def rowsZ : List (List Int) := Pl.rowsB.map fun r => r.map fun (x : Nat) => (x : Int)
def tabsW : List (String × DataW Unit) := [("math/bits.deBruijn32tab", Rows.laid_math_bits_deBruijn32tab), ("math/bits.deBruijn64tab", Rows.laid_math_bits_deBruijn64tab), ("hibernacle/hash.eight", Rows.laid_hibernacle_hash_eight), ("hibernacle/hash.rows", Rows.laid_hibernacle_hash_rows), ("internal/strconv.uint64pow10", Rows.laid_internal_strconv_uint64pow10), ("strconv.ErrRange", Rows.laid_strconv_ErrRange), ("strconv.ErrSyntax", Rows.laid_strconv_ErrSyntax)]
theorem eight_tab : (Rows.laid_hibernacle_hash_eight : DataW Unit) = Lib.tabData .u32 (Pl.eight.map fun (x : Nat) => (x : Int)) := rfl
theorem rows_tab : (Rows.laid_hibernacle_hash_rows : DataW Unit) = .agg (rowsZ.map (Lib.tabData .u8)) := rfl
theorem vhash_e {W : World} {r : List (String × DataW Unit)} (h : laidMet Tryz.prog (("hibernacle/hash.eight", Rows.laid_hibernacle_hash_eight) :: r) W) : GlobC W 0 (u32s Pl.eight) := by
  rw [eight_tab] at h
  have := Lib.tabIs_of_head g_eight t_eight Tryz.underlying90 Tryz.underlying89 (by kernel_rfl) (by kernel_rfl) h
  refine glob_of_var g_eight (this.trans ?_)
  simp [u32s]
theorem vhash_r {W : World} {r : List (String × DataW Unit)} (h : laidMet Tryz.prog (("hibernacle/hash.rows", Rows.laid_hibernacle_hash_rows) :: r) W) : GlobC W 1 (u8s rowsU) := by
  rw [rows_tab] at h
  obtain ⟨ps, ⟨g', t', cs, fuel, p, q, hg', ht', hvar, hd, _, _⟩, _⟩ := h
  obtain rfl := Option.some.inj (g_rows.symm.trans hg')
  obtain rfl := Option.some.inj (t_rows.symm.trans ht')
  have hc := cells_of_tab2 Tryz.underlying214 Tryz.underlying213 Tryz.underlying5 (by kernel_rfl) (by kernel_rfl) (by kernel_rfl) hd
  refine glob_of_var g_rows ?_
  have he : (rowsZ.map fun z => z.map fun x => Value.int .u8 x).flatten = u8s rowsU := by kernel_rfl
  rw [hvar]
  refine congrArg some (Array.toList_inj.1 ?_)
  rw [hc, he]
theorem vnum_ofW {W : World} (h : laidMetH Tryz.prog tabsW W) : VNum W ∧ VHash W := by
  have h' : laidMet Tryz.prog tabsW W := h
  have h2 := h'.tail.tail
  have h3 := h2.tail
  have h4 := h3.tail
  exact ⟨⟨vtab_of h4, isErr_of h4.tail.tail (by kernel_rfl) (by kernel_rfl), isErr_of h4.tail (by kernel_rfl) (by kernel_rfl)⟩, ⟨vhash_e h2, vhash_r h3⟩⟩
theorem door_metW (os : Os) (args : Array Value) : laidMetH Tryz.prog tabsW ((World.doorLaid Tryz.prog 100 os).forCall (fun _ _ => 0) ⟨#[], args, []⟩).memory :=
  laidMetH_of_parts3 (fuel := 8) (laidMet_of_run' 8 (by kernel_rfl) (by kernel_rfl)) (by kernel_rfl) (by kernel_rfl)
end Go.Proofs.YtdnebgilkfafhaaGreatDoor
