/- What the package-level variables that numbers' texts want hold, kept over a call. -/
import Derived.Test.YtdnebgilkfafhaaGreatDoorBase
import Derived.Lib.LaidTab
import Derived.Lib.ItoaMem
import Derived.Lib.AppendIntMem
import Derived.Lib.ConvBytes
namespace Go.Proofs.YtdnebgilkfafhaaGreatDoor
open Go.RowKit

theorem var_keep {w w' : World} {n : String} {cs : Array Value} (h : w.var? Tryz.prog n = some cs) {B : Nat} (hb : Below B w w') (hB : w.heap.size ≤ B) : w'.var? Tryz.prog n = some cs := by
  unfold World.var? at h ⊢
  cases hg : Tryz.prog.globalNamed n with
  | none => rw [hg] at h; cases h
  | some g =>
    rw [hg] at h
    simp only [Option.bind_some] at h ⊢
    have hlt : g < w.heap.size := by
      rcases Nat.lt_or_ge g w.heap.size with h1 | h1
      · exact h1
      · rw [Array.getElem?_eq_none h1] at h; cases h
    rw [hb.block g (by omega)]; exact h
/-- The table of powers of ten. -/
abbrev VTab (w : World) : Prop := Lib.TabIs Tryz.prog w "internal/strconv.uint64pow10" .u64 Lib.pow10Tab
theorem VTab.below {w w' : World} (h : VTab w) (hb : Below w.heap.size w w') : VTab w' := var_keep h hb (Nat.le_refl _)
theorem VTab.keep {w w' : World} (h : VTab w) {B : Nat} (hb : Below B w w') (hB : w.heap.size ≤ B) : VTab w' := var_keep h hb hB
def IsErr (g : Nat) (w : World) : Prop := ∃ ev, w.cell? ⟨g, 0, none⟩ = some ev ∧ g < w.heap.size ∧ (ev = .nilIface ∨ ∃ te pe, ev = .iface te pe)
theorem IsErr.below {g : Nat} {w w' : World} (h : IsErr g w) (hb : Below w.heap.size w w') : IsErr g w' := by
  obtain ⟨ev, h1, h2, h3⟩ := h
  exact ⟨ev, (hb.cell (p := ⟨g, 0, none⟩) h2).trans h1, Nat.lt_of_lt_of_le h2 hb.size, h3⟩
/-- .. and strconv's two errors. -/
structure VNum (w : World) : Prop where
  tab : VTab w
  syn : IsErr 4 w
  rng : IsErr 5 w
theorem VNum.below {w w' : World} (h : VNum w) (hb : Below w.heap.size w w') : VNum w' := ⟨h.tab.below hb, h.syn.below hb, h.rng.below hb⟩
theorem below_grow (w : World) (k : Nat) (os : Array Obj) : Below w.heap.size w (Sort.grow (w.drewN k) os) := Lib.below_grow _ w (Nat.le_refl _) k os
theorem below_bytes (w : World) (e : TypeId) (s : ByteArray) : Below w.heap.size w (Lib.bytesWorld w e s) :=
  ⟨rfl, rfl, rfl, by rw [Lib.bytesWorld_size]; omega, fun j hj => Lib.bytesWorld_at_old w e s j hj⟩
end Go.Proofs.YtdnebgilkfafhaaGreatDoor
