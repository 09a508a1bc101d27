/- What the listed package-level variables give a walk: the table of powers of ten, strconv's two errors; a world that meets the condition. -/
import Derived.Test.YtdnebgilkfafhaaGreatDoorVars
import Derived.Test.YtdnebgilkfafhaaGreatDoorOpen
import Derived.LaidHandle
import Derived.LaidMore
import Derived.LaidLaws
import Derived.Stop.LaidErr
import Derived.Stop.Joined
import Derived.SevenTiedAt
import Derived.ChangeVars
import Derived.JoinedOf
namespace Go.Proofs.YtdnebgilkfafhaaGreatDoor
open Go.ChangeShapes Go.WideShapes Go.ChangeAt Go.RowKit
set_option maxRecDepth 100000

theorem g_pow : Tryz.prog.globalNamed "internal/strconv.uint64pow10" = some 3 := by kernel_rfl
theorem t_pow : (Tryz.prog.globals[3]?).map (·.type) = some 256 := by kernel_rfl
theorem vtab_of {W : World} {r : List (String × DataW Unit)} (h : laidMet Tryz.prog (("internal/strconv.uint64pow10", Rows.laid_internal_strconv_uint64pow10) :: r) W) : VTab W :=
  Lib.tabIs_of_head g_pow t_pow Tryz.underlying256 Tryz.underlying123 (by kernel_rfl) (by kernel_rfl) h
theorem star_err : "*" ++ "errors.errorString" = "*errors.errorString" := by decide
theorem row_err (u : TypeId) (h : Tryz.prog.typeName? 3 u = some "*errors.errorString") : u = 263 :=
  typeName_ptr_named (nm := "errors.errorString") (by rw [star_err]; kernel_rfl) (by kernel_rfl) (by decide) u (by rw [star_err]; exact h)
theorem isErr_of {W : World} {n : String} {text : List UInt8} {r : List (String × DataW Unit)} {g : Nat} (h : laidMet Tryz.prog ((n, .iface "*errors.errorString" (.ptr (.agg [.lit (.string text)]))) :: r) W)
    (hg : Tryz.prog.globalNamed n = some g) (ht : (Tryz.prog.globals[g]?).map (·.type) = some 175) : IsErr g W := by
  obtain ⟨a, s, hv, -⟩ := laid_sentinel h hg ht Tryz.underlying175 row_err Tryz.underlying263 Tryz.underlying265 rfl rfl Tryz.underlying9 (by kernel_rfl) (by kernel_rfl)
  have hc : W.cell? ⟨g, 0, none⟩ = some (.iface 263 (.pointer (some a))) := by simpa using World.var?_cell hg hv 0
  refine ⟨_, hc, ?_, .inr ⟨_, _, rfl⟩⟩
  rcases Nat.lt_or_ge g W.heap.size with h1 | h1
  · exact h1
  · simp [World.cell?, Array.getElem?_eq_none h1] at hc
def tabs3 : List (String × DataW Unit) := [("math/bits.deBruijn32tab", Rows.laid_math_bits_deBruijn32tab), ("math/bits.deBruijn64tab", Rows.laid_math_bits_deBruijn64tab), ("internal/strconv.uint64pow10", Rows.laid_internal_strconv_uint64pow10)]
def tabs5 : List (String × DataW Unit) := tabs3 ++ [("strconv.ErrRange", Rows.laid_strconv_ErrRange), ("strconv.ErrSyntax", Rows.laid_strconv_ErrSyntax)]
theorem vtab_of3 {W : World} (h : laidMetH Tryz.prog tabs3 W) : VTab W := by
  have h' : laidMet Tryz.prog tabs3 W := h
  exact vtab_of h'.tail.tail
theorem vnum_of5 {W : World} (h : laidMetH Tryz.prog tabs5 W) : VNum W := by
  have h' : laidMet Tryz.prog tabs5 W := h
  have h2 := h'.tail.tail
  exact ⟨vtab_of h2, isErr_of h2.tail.tail (by kernel_rfl) (by kernel_rfl), isErr_of h2.tail (by kernel_rfl) (by kernel_rfl)⟩
theorem door_met3 (os : Os) (args : Array Value) : laidMetH Tryz.prog tabs3 ((World.doorLaid Tryz.prog 100 os).forCall (fun _ _ => 0) ⟨#[], args, []⟩).memory :=
  laidMetH_of_parts3 (fuel := 8) (laidMet_of_run' 8 (by kernel_rfl) (by kernel_rfl)) (by kernel_rfl) (by kernel_rfl)
theorem door_met5 (os : Os) (args : Array Value) : laidMetH Tryz.prog tabs5 ((World.doorLaid Tryz.prog 100 os).forCall (fun _ _ => 0) ⟨#[], args, []⟩).memory :=
  laidMetH_of_parts3 (fuel := 8) (laidMet_of_run' 8 (by kernel_rfl) (by kernel_rfl)) (by kernel_rfl) (by kernel_rfl)
end Go.Proofs.YtdnebgilkfafhaaGreatDoor
