/- []byte as a text. -/
import Derived.Test.YtommlolhpaeioaaDoorRd
namespace Go.Proofs.YtommlolhpaeioaaDoor
open Go.RowKit
theorem bytes_conv (w : World) (b off len cap : Nat) (l : List UInt8) (hl : l.length = len) (h : ∀ j (hj : j < l.length), w.cell? ⟨b, off + j, none⟩ = some (.int .u8 (l[j].toNat : Int))) :
    (convert 53 9 (.slice (some ⟨b, off, none⟩) len cap)).run Tryd.prog w = .ok (.string ⟨l.toArray⟩) w := by
  subst hl
  rw [run_convert_bytes_string w _ _ _ _ _ _ Tryd.underlying53 Tryd.underlying5 Tryd.underlying9]
  have hlc := run_loadCells_list (P := Tryd.prog) w ⟨b, off, none⟩ ((l.map fun c => (c.toNat : Int)).map (Value.int .u8)) (fun j v hv => by
    rw [addr_add]
    simp only [List.map_map, List.getElem?_map] at hv
    rcases Nat.lt_or_ge j l.length with hj | hj
    · rw [List.getElem?_eq_getElem hj] at hv
      simp at hv
      rw [h j hj, ← hv]
    · rw [List.getElem?_eq_none hj] at hv; simp at hv)
  rw [run_bytesToString w ⟨b, off, none⟩ l.length cap (l.map fun c => (c.toNat : Int)) (by simpa using hlc)]
  congr 2
  have : ∀ (l : List UInt8) (s : ByteArray), (l.map fun c => (c.toNat : Int)).foldl (fun r n => r.push (UInt8.ofNat n.toNat)) s = ⟨(s.data.toList ++ l).toArray⟩ := by
    intro l
    induction l with
    | nil => intro s; apply ByteArray.ext; simp
    | cons c l ih =>
      intro s
      simp only [List.map_cons, List.foldl_cons, ih]
      apply ByteArray.ext
      simp
  rw [this]; rfl
/-- One byte made into a text. -/
theorem byte_conv (w : World) (b : Nat) (c : UInt8) (cap : Nat) (h : w.cell? ⟨b, 0, none⟩ = some (.int .u8 (c.toNat : Int))) :
    (convert 53 9 (.slice (some ⟨b, 0, none⟩) 1 cap)).run Tryd.prog w = .ok (.string ⟨[c].toArray⟩) w :=
  bytes_conv w b 0 1 cap [c] rfl (fun j hj => by
    obtain rfl : j = 0 := by simpa using hj
    simpa using h)
end Go.Proofs.YtommlolhpaeioaaDoor
