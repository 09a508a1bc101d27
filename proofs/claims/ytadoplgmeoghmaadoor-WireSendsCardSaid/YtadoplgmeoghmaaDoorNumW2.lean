/- The walks of the reference's Same, length, Row, of the statements' long. The walks of the reference's length and Row. -/
import Derived.Test.YtadoplgmeoghmaaDoorBase
import Derived.Test.YtadoplgmeoghmaaDoorNumPlain
import Derived.Deep.QuietTactic
import Derived.BigQuiet
import Derived.Deep.RegionWith
import Derived.Deep.RegionHeld3
namespace Go.Proofs.YtadoplgmeoghmaaDoor
open Go.RowKit
attribute [local go_sem] ba_get

/-- Drawn a few times, the world else as it was. -/
def RetQ (v : Value) (w : World) (e : Ending) (w' : World) : Prop := e = .returned v ∧ ∃ n, w' = w.drewN n

/-- Are texts more than are looked at? -/
def sumLen : List (List UInt8) → Nat
  | [] => 0
  | s :: l => s.length + 1 + sumLen l
theorem sumLen_snoc (l : List (List UInt8)) (s : List UInt8) : sumLen (l ++ [s]) = sumLen l + (s.length + 1) := by
  induction l with
  | nil => simp [sumLen]
  | cons x l ih => simp [sumLen, ih]; omega
theorem sumLen_take (l : List (List UInt8)) (j : Nat) (h : j < l.length) : sumLen (l.take (j + 1)) = sumLen (l.take j) + (l[j].length + 1) := by
  rw [List.take_succ_eq_append_getElem h, sumLen_snoc]
theorem sumLen_le (l : List (List UInt8)) (j : Nat) : sumLen (l.take j) ≤ sumLen l := by
  induction l generalizing j with
  | nil => simp [sumLen]
  | cons x l ih => cases j <;> simp [sumLen]; exact ih _
theorem sumLen_length (l : List (List UInt8)) : l.length ≤ sumLen l := by
  induction l with
  | nil => simp [sumLen]
  | cons x l ih => simp [sumLen]; omega

end Go.Proofs.YtadoplgmeoghmaaDoor
namespace Go.Proofs.YtadoplgmeoghmaaDoor
open Go.RowKit
attribute [local go_sem] ba_get

theorem conv_byte (w : World) (b off c : Nat) (x : Int) (h : w.cell? ⟨b, off, none⟩ = some (.int .u8 x)) :
    (convert 71 9 (.slice (some ⟨b, off, none⟩) 1 c)).run Tryd.prog w = .ok (.string ⟨#[UInt8.ofNat x.toNat]⟩) w := by
  rw [run_convert_bytes_string w _ _ _ _ _ _ Tryd.underlying71 Tryd.underlying5 Tryd.underlying9]
  rw [run_bytesToString w ⟨b, off, none⟩ 1 c [x] ?_]
  · rfl
  · simp [loadCells, go_sem, h]
theorem cat_lists {P : Program} (w : World) (x y : List UInt8) (h : x.length + y.length ≤ 9223372036854775807) : (Op.stringOp .add ⟨x.toArray⟩ ⟨y.toArray⟩).run P w = .ok (.string ⟨(x ++ y).toArray⟩) w := by
  rw [run_string_add_sum w _ _ (by simpa [ByteArray.size] using h), ByteArray.mk_append_mk]
attribute [local go_sem] conv_byte
attribute [local go_sem] ba_add

theorem keep_new {w w' : World} {x : Value} {t : TypeId} {B : Nat} (hb : Below B (w.alloc (.cells #[x] t)).drew w') (hB : B = (w.alloc (.cells #[x] t)).drew.heap.size := by rfl) : w'.cell? ⟨w.heap.size, 0, none⟩ = some x := by
  subst hB
  refine (hb.cell (p := ⟨w.heap.size, 0, none⟩) (by simp)).trans ?_
  simp [go_sem]

end Go.Proofs.YtadoplgmeoghmaaDoor
