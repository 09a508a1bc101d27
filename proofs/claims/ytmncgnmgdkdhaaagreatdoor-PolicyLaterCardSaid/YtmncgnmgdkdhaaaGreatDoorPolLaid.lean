/- What the walks of this chapter read of package variables, had from the condition of the card and the world's shape; a world that meets the condition (one listed table is pinned). -/
import Derived.Test.YtmncgnmgdkdhaaaGreatDoorLaid
import Derived.Test.YtmncgnmgdkdhaaaGreatDoorPolOf
import Derived.Test.YtmncgnmgdkdhaaaGreatDoorRows
import Derived.Shelf.Vars
import Derived.Lay
import Derived.MakeChecks
namespace Go.Proofs.YtmncgnmgdkdhaaaGreatDoor
open Go.ChangeShapes Go.WideShapes Go.ChangeAt Go.RowKit
set_option maxRecDepth 100000
def tabs7 : List (String × DataW Unit) := [("math/bits.deBruijn32tab", Rows.laid_math_bits_deBruijn32tab), ("math/bits.deBruijn64tab", Rows.laid_math_bits_deBruijn64tab), ("internal/strconv.uint64pow10", Rows.laid_internal_strconv_uint64pow10), ("unicode/utf8.acceptRanges", Rows.laid_unicode_utf8_acceptRanges), ("strconv.ErrRange", Rows.laid_strconv_ErrRange), ("strconv.ErrSyntax", Rows.laid_strconv_ErrSyntax), ("unicode/utf8.first", Rows.laid_unicode_utf8_first)]
theorem plain7 (W : World) : laidMetH Tryz.prog tabs7 W = laidMet Tryz.prog tabs7 W := MakeChecks.laidMetH_plain _ _ _ (by kernel_rfl)
theorem vnum_of7 {W : World} (h : laidMetH Tryz.prog tabs7 W) : VNum W := by
  rw [plain7] at h
  have h2 := h.tail.tail
  have h3 := h2.tail.tail
  exact ⟨vtab_of h2, isErr_of h3.tail (by kernel_rfl) (by kernel_rfl), isErr_of h3 (by kernel_rfl) (by kernel_rfl)⟩
theorem vpol_of7 {W : World} (h : laidMetH Tryz.prog tabs7 W) (hsh : W.ShapedOpen Tryz.prog) : VPol W :=
  ⟨vnum_of7 h, cell_of_shapedOpen_int (g := 0) (t := 3) (zero := #[.int .i64 0]) (k := .i64) hsh (of_decide_eq_true (by kernel_rfl)) (by kernel_rfl) rfl (by kernel_rfl) (by kernel_rfl) Tryz.underlying3⟩
theorem door_shaped7 (os : Os) : (World.laidAll Tryz.prog os tabs7).Shaped Tryz.prog := World.shaped_of_ZipB (by kernel_rfl) (by kernel_rfl)
theorem door_met7 (os : Os) (args : Array Value) : laidMetH Tryz.prog tabs7 ((World.laidAll Tryz.prog os tabs7).forCall (fun _ _ => 0) ⟨#[], args, []⟩).memory := by
  rw [plain7]
  exact laidMet_laidAll _ (by kernel_rfl) (by kernel_rfl)
end Go.Proofs.YtmncgnmgdkdhaaaGreatDoor
