/- How a snapshot lies in memory. -/
import Derived.Test.YtadoplgmeoghmaaDoorNumPlain
import Derived.Test.YtadoplgmeoghmaaDoorBase
import Derived.Deep.MidRow
import Derived.Deep.WholeRow
namespace Go.Proofs.YtadoplgmeoghmaaDoor
open Go.RowKit
set_option linter.unusedVariables false
/-- The three slices of a snapshot's names. -/
structure Cx where
  A0 : Option Addr
  n0 : Nat
  k0 : Nat
  A1 : Option Addr
  n1 : Nat
  k1 : Nat
  A2 : Option Addr
  n2 : Nat
  k2 : Nat
def byC (l : List UInt8) : List Value := l.map fun b => .int .u8 (b.toNat : Int)
def snL (s : Pl.Snap) (x : Cx) : List Value :=
  [.string ⟨s.m.toArray⟩, .int .i64 s.n, .int .i64 s.at_, .int .u64 s.clock, .int .i64 s.pages, .int .i64 s.blocks, .slice x.A0 x.n0 x.k0, .slice x.A1 x.n1 x.k1, .slice x.A2 x.n2 x.k2] ++ byC s.sum
structure SnOk (w : World) (s : Pl.Snap) (x : Cx) : Prop where
  s0 : SlAt w 1 x.A0 x.n0 x.k0 (strs s.c0)
  s1 : SlAt w 1 x.A1 x.n1 x.k1 (strs s.c1)
  s2 : SlAt w 1 x.A2 x.n2 x.k2 (strs s.c2)
  sum : s.sum.length = 32
theorem SnOk.below {w w' : World} {s : Pl.Snap} {x : Cx} (h : SnOk w s x) (hb : Below w.heap.size w w') : SnOk w' s x := ⟨h.s0.below hb, h.s1.below hb, h.s2.below hb, h.sum⟩
theorem byC_len (l : List UInt8) : (byC l).length = l.length := by simp [byC]
theorem snL_len {w : World} {s : Pl.Snap} {x : Cx} (h : SnOk w s x) : (snL s x).length = 41 := by simp [snL, byC_len, h.sum]
section
variable {w : World} {B o : Nat} {s : Pl.Snap} {x : Cx}
/-- A snapshot's cells from offset o of block B on. -/
structure SnAt (w : World) (B o : Nat) (s : Pl.Snap) (x : Cx) : Prop where
  all : w.rangeAt B o (snL s x)
  c0 : w.cell? ⟨B, o, none⟩ = some (.string ⟨s.m.toArray⟩)
  c1 : w.cell? ⟨B, o + 1, none⟩ = some (.int .i64 s.n)
  c2 : w.cell? ⟨B, o + 2, none⟩ = some (.int .i64 s.at_)
  c3 : w.cell? ⟨B, o + 3, none⟩ = some (.int .u64 s.clock)
  c4 : w.cell? ⟨B, o + 4, none⟩ = some (.int .i64 s.pages)
  c5 : w.cell? ⟨B, o + 5, none⟩ = some (.int .i64 s.blocks)
  c6 : w.cell? ⟨B, o + 6, none⟩ = some (.slice x.A0 x.n0 x.k0)
  c7 : w.cell? ⟨B, o + 7, none⟩ = some (.slice x.A1 x.n1 x.k1)
  c8 : w.cell? ⟨B, o + 8, none⟩ = some (.slice x.A2 x.n2 x.k2)
theorem snAt_of (h : w.rangeAt B o (snL s x)) : SnAt w B o s x :=
  ⟨h, h 0 _ rfl, h 1 _ rfl, h 2 _ rfl, h 3 _ rfl, h 4 _ rfl, h 5 _ rfl, h 6 _ rfl, h 7 _ rfl, h 8 _ rfl⟩
theorem SnAt.keep {w' : World} (h : SnAt w B o s x) (hb : ∀ i, w'.cell? ⟨B, i, none⟩ = w.cell? ⟨B, i, none⟩) : SnAt w' B o s x :=
  snAt_of fun j v hv => (hb _).trans (h.all j v hv)
theorem SnAt.below {w' : World} (h : SnAt w B o s x) (hB : B < w.heap.size) (hb : Below w.heap.size w w') : SnAt w' B o s x :=
  h.keep fun i => hb.cell (p := ⟨B, i, none⟩) hB
theorem snAt_row {C : List Value} {t : TypeId} (h : w.heap[B]? = some (.cells C.toArray t (0, 0))) (hC : ∀ j v, (snL s x)[j]? = some v → C[o + j]? = some v) : SnAt w B o s x :=
  snAt_of fun j v hv => (cell_row w B (o + j) C.toArray t h).trans (by simpa using hC j v hv)
theorem snAt_new (w : World) (s : Pl.Snap) (x : Cx) : SnAt (w.alloc (.cells (snL s x).toArray 31)) w.heap.size 0 s x :=
  snAt_row (heap_alloc_new w _) fun j v hv => by simpa using hv
end
end Go.Proofs.YtadoplgmeoghmaaDoor
