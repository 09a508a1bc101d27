/- What the assembler reads of package variables, had from the condition of the card and the world's shape; a world that meets the condition (one listed table is pinned). -/
import Derived.Test.YtmmnkoeajdeldaaGreatDoorLaid
import Derived.Test.YtmmnkoeajdeldaaGreatDoorAsXe
import Derived.Test.YtmmnkoeajdeldaaGreatDoorRows
import Derived.Shelf.Vars
import Derived.Lay
import Derived.MakeChecks
namespace Go.Proofs.YtmmnkoeajdeldaaGreatDoor
open Go.ChangeShapes Go.WideShapes Go.ChangeAt Go.RowKit
set_option maxRecDepth 100000
theorem g_ops : Tryz.prog.globalNamed "hibernacle/isa.names" = some 0 := by kernel_rfl
theorem t_ops : (Tryz.prog.globals[0]?).map (·.type) = some 88 := by kernel_rfl
theorem cells_of_strs {H : Type} {enc : TypeId × Value → H} {P : Program} {w : World} {base : Nat} {sp : Nat → Bool} {held : Bool} {fuel : Nat} {t e : TypeId} {n : Nat} {cs : List Value} {zs : List (List UInt8)} {p : List MemPlace}
    (ht : P.underlying t = some (.array n e)) (he : P.underlying e = some .string) (hce : P.cellsOf e = 1) (hct : P.cellsOf t = n)
    (h : DataW.trod enc P w base sp held fuel t cs = some (.agg (zs.map fun z => DataW.lit (.string z)), p)) : cs = zs.map fun z => Value.string ⟨z.toArray⟩ := by
  cases fuel with
  | zero => simp [DataW.trod] at h
  | succ fuel =>
    simp only [DataW.trod, ht, hce, hct, Nat.mul_one] at h
    split at h
    · rename_i hl
      obtain ⟨xs, hm, hx⟩ := Option.map_eq_some_iff.1 h
      have hxs : xs.map (·.1) = zs.map fun z => (DataW.lit (.string z) : DataW H) := by
        have := congrArg Prod.fst hx
        simpa using this
      have hxl : xs.length = n := by simpa using Lib.mapM_length hm
      have hzl : zs.length = n := by
        have := congrArg List.length hxs
        simp at this
        omega
      apply List.ext_getElem?
      intro i
      by_cases hi : i < n
      · obtain ⟨b, hb, hf⟩ := Lib.mapM_at hm i i (by simp [hi])
        obtain ⟨z, hc, hz, _⟩ := DataW.trod_string he hf
        subst hz
        have h1 : cs[i]? = some (.string z) := by
          have := congrArg (·[0]?) hc
          simpa [List.getElem?_take, List.getElem?_drop] using this
        have h2 : (xs.map (·.1))[i]? = some (DataW.lit (.string z.data.toList) : DataW H) := by simp [hb]
        rw [hxs] at h2
        simp only [List.getElem?_map, Option.map_eq_some_iff, DataW.lit.injEq, Lit.string.injEq] at h2
        obtain ⟨z', hz', h3⟩ := h2
        rw [h1, List.getElem?_map, hz', h3]
        rfl
      · rw [List.getElem?_eq_none (by omega), List.getElem?_eq_none (by simp; omega)]
    · cases h
def namesZ : List (List UInt8) := [] :: Pl.opNs
theorem ops_data : (Rows.laid_hibernacle_isa_names : DataW Unit) = .agg (namesZ.map fun z => DataW.lit (.string z)) := rfl
theorem ops_of {W : World} {r : List (String × DataW Unit)} (h : laidMet Tryz.prog (("hibernacle/isa.names", Rows.laid_hibernacle_isa_names) :: r) W) : OpTab W := by
  rw [ops_data] at h
  obtain ⟨ps, ⟨g', t', cs, fuel, p, q, hg', ht', hvar, hd, _, _⟩, _⟩ := h
  obtain rfl := Option.some.inj (g_ops.symm.trans hg')
  obtain rfl := Option.some.inj (t_ops.symm.trans ht')
  have hc := cells_of_strs Tryz.underlying88 Tryz.underlying9 (by kernel_rfl) (by kernel_rfl) hd
  have hcell : ∀ j v, opNsV[j]? = some v → W.cell? ⟨0, 0 + j, none⟩ = some v := fun j v hv => by
    rw [Nat.zero_add, World.var?_cell g_ops hvar j, ← Array.getElem?_toList, hc]
    exact hv
  refine ⟨hcell, ?_⟩
  have h0 := hcell 0 (.string ⟨#[]⟩) rfl
  exact World.block_lt_of_cell? _ _ h0
def tabs8 : List (String × DataW Unit) := [("math/bits.deBruijn32tab", Rows.laid_math_bits_deBruijn32tab), ("math/bits.deBruijn64tab", Rows.laid_math_bits_deBruijn64tab), ("internal/strconv.uint64pow10", Rows.laid_internal_strconv_uint64pow10), ("unicode/utf8.acceptRanges", Rows.laid_unicode_utf8_acceptRanges), ("strconv.ErrRange", Rows.laid_strconv_ErrRange), ("strconv.ErrSyntax", Rows.laid_strconv_ErrSyntax), ("hibernacle/isa.names", Rows.laid_hibernacle_isa_names), ("unicode/utf8.first", Rows.laid_unicode_utf8_first)]
theorem plain8 (W : World) : laidMetH Tryz.prog tabs8 W = laidMet Tryz.prog tabs8 W := MakeChecks.laidMetH_plain _ _ _ (by kernel_rfl)
/-- What the laws of this chapter read of package variables. -/
structure VLaw (w : World) : Prop where
  num : VNum w
  asm : VAsm w
theorem VLaw.below {w w' : World} (h : VLaw w) (hb : Below w.heap.size w w') : VLaw w' := ⟨h.num.below hb, h.asm.below hb⟩
theorem vlaw_of8 {W : World} (h : laidMetH Tryz.prog tabs8 W) (hsh : W.ShapedOpen Tryz.prog) : VLaw W := by
  rw [plain8] at h
  have h2 := h.tail.tail
  have h3 := h2.tail.tail
  have h4 := h3.tail.tail
  obtain ⟨m, hm⟩ := cell_of_shapedOpen_int (g := 2) (t := 3) (zero := #[.int .i64 0]) (k := .i64) hsh (of_decide_eq_true (by kernel_rfl)) (by kernel_rfl) rfl (by kernel_rfl) (by kernel_rfl) Tryz.underlying3
  have hr : IsErr 6 W := isErr_of h3 (by kernel_rfl) (by kernel_rfl)
  exact ⟨⟨vtab_of h2, isErr_of h3.tail (by kernel_rfl) (by kernel_rfl), hr⟩, ⟨⟨m, hm, World.block_lt_of_cell? _ _ hm⟩, hr, ops_of h4⟩⟩
theorem door_shaped8 (os : Os) : (World.laidAll Tryz.prog os tabs8).Shaped Tryz.prog := World.shaped_of_ZipB (by kernel_rfl) (by kernel_rfl)
theorem door_met8 (os : Os) (args : Array Value) : laidMetH Tryz.prog tabs8 ((World.laidAll Tryz.prog os tabs8).forCall (fun _ _ => 0) ⟨#[], args, []⟩).memory := by
  rw [plain8]
  exact laidMet_laidAll _ (by kernel_rfl) (by kernel_rfl)
theorem open_boolean {H : Type} {enc : TypeId × Value → H} {W : World} {base : Nat} {sp : Nat → Bool} {held : Bool} {v : Value} {d : DataW H} {p : List MemPlace} {r : Reach} {b0 : Nat} (hv : Value.okWide Tryz.prog W r b0 4 v) (h : DataW.Trod enc Tryz.prog W base sp held 4 v d p)
    (_hz : ∀ m ∈ d.weights Tryz.prog 4, m ≤ reachBytes) : ∃ x : Bool, v = .bool x ∧ (x = true ∨ x = false) := by
  obtain ⟨b, rfl, -⟩ := open_bool Tryz.underlying4 hv h
  exact ⟨b, rfl, by cases b <;> simp⟩
end Go.Proofs.YtmmnkoeajdeldaaGreatDoor
