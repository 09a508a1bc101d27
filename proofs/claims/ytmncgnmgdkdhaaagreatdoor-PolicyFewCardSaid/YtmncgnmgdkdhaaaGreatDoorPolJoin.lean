/- strings.Join at this seat (the shelf's contract, laid by hand: its tool leaves this one out). -/
import Derived.Test.YtmncgnmgdkdhaaaGreatDoorBase
import Derived.Test.YtmncgnmgdkdhaaaGreatDoorLib
import Derived.Shelf.Strings.BuilderX
namespace Go.Proofs.YtmncgnmgdkdhaaaGreatDoor
open Go.RowKit
theorem joinX : Builder.Extra Tryz.prog Tryz.lays156_ren where
  sizeBuilder := by kernel_rfl
  liesBuilder := by kernel_rfl
  t5 := Tryz.underlying5
  a5 := Tryz.isAgg5
  z5 := Tryz.sizeOf5
  v5 := Tryz.zeroValue5
  infoByte := by kernel_rfl
  cellsByte := by kernel_rfl
  sizeByte := by kernel_rfl
  neB5 := of_decide_eq_true (by kernel_rfl)
theorem join_many (bk o c : Nat) (xs : List ByteArray) (sep : ByteArray) (w : World)
    (hcells : ∀ (j : Nat) x, xs[j]? = some x → w.cell? ⟨bk, o + j, none⟩ = some (.string x))
    (hbk : bk < w.heap.size) (h2 : 2 ≤ xs.length) (hN : xs.length ≤ 140737488355328) (hcap : xs.length ≤ c)
    (hlen : (Lib.join (xs.map (·.data.toList)) sep.data.toList).length ≤ 140737488355328) :
    Calls Tryz.prog 26 #[.slice (some ⟨bk, o, none⟩) xs.length c, .string sep] w fun e w' => e = .returned (.string ⟨(Lib.join (xs.map (·.data.toList)) sep.data.toList).toArray⟩) ∧ Below w.heap.size w w' :=
  Any.strings_Join_many Tryz.lays156 joinX bk o c xs sep w hcells hbk h2 hN hcap hlen
end Go.Proofs.YtmncgnmgdkdhaaaGreatDoor
