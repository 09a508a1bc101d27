/- Boxes that law 49's statements hold: a policy, snapshots with a minute; Keep called on them. -/
import Derived.Test.YtmncgnmgdkdhaaaGreatDoorPolGr
namespace Go.Proofs.YtmncgnmgdkdhaaaGreatDoor
open Go.RowKit
set_option linter.unusedVariables false
set_option linter.unusedSimpArgs false
theorem info_ref : (Tryz.prog.info? 39).map (fun i => (i.zero, i.size, i.bytes)) = some (some (.agg #[.string ⟨#[]⟩, .int .i64 0, .int .i64 0, .string ⟨#[]⟩, .int .i64 0]), 5, 56) := by kernel_rfl
theorem RfsIn.below {w w' : World} {v : Value} {l : List Pl.Rf} (h : RfsIn w v l) (hb : Below w.heap.size w w') : RfsIn w' v l := by
  obtain ⟨A, c, h1, h2, h3, h4, h5⟩ := h
  exact ⟨A, c, h1, h2.below hb, h3, h4, h5⟩
theorem RfsIn.keep {w w' : World} {v : Value} {l : List Pl.Rf} {B : Nat} (h : RfsIn w v l) (hb : Below B w w') (hB : w.heap.size ≤ B) : RfsIn w' v l := h.below ⟨hb.os, hb.tape, hb.output, hb.size, fun j hj => hb.block j (by omega)⟩
/-- A policy's box. -/
structure PoBox (B : Nat) (p : Pl.Pol) (w : World) : Prop where
  c0 : w.cell? ⟨B, 0, none⟩ = some (.int .i64 p.d)
  c1 : w.cell? ⟨B, 1, none⟩ = some (.int .i64 p.w)
  c2 : w.cell? ⟨B, 2, none⟩ = some (.int .i64 p.mo)
  c3 : w.cell? ⟨B, 3, none⟩ = some (.int .i64 p.y)
theorem PoBox.keep {B C : Nat} {p : Pl.Pol} {w w' : World} (h : PoBox B p w) (hb : Below C w w') (hB : B < C) : PoBox B p w' :=
  ⟨(hb.cell (p := ⟨B, 0, none⟩) hB).trans h.c0, (hb.cell (p := ⟨B, 1, none⟩) hB).trans h.c1, (hb.cell (p := ⟨B, 2, none⟩) hB).trans h.c2, (hb.cell (p := ⟨B, 3, none⟩) hB).trans h.c3⟩
theorem PoBox.below {B : Nat} {p : Pl.Pol} {w w' : World} (h : PoBox B p w) (hb : Below w.heap.size w w') : PoBox B p w' := h.keep hb (World.block_lt_of_cell? _ _ h.c0)
/-- The box of snapshots with a minute. -/
structure ByBox (B : Nat) (s : Value) (now : Int) (w : World) : Prop where
  c0 : w.cell? ⟨B, 0, none⟩ = some s
  c1 : w.cell? ⟨B, 1, none⟩ = some (.int .i64 now)
theorem ByBox.keep {B C : Nat} {s : Value} {now : Int} {w w' : World} (h : ByBox B s now w) (hb : Below C w w') (hB : B < C) : ByBox B s now w' :=
  ⟨(hb.cell (p := ⟨B, 0, none⟩) hB).trans h.c0, (hb.cell (p := ⟨B, 1, none⟩) hB).trans h.c1⟩
theorem ByBox.below {B : Nat} {s : Value} {now : Int} {w w' : World} (h : ByBox B s now w) (hb : Below w.heap.size w w') : ByBox B s now w' := h.keep hb (World.block_lt_of_cell? _ _ h.c0)
/-- Both. -/
structure PB (Bp By : Nat) (p : Pl.Pol) (s : Value) (now : Int) (w : World) : Prop where
  c0 : w.cell? ⟨Bp, 0, none⟩ = some (.int .i64 p.d)
  c1 : w.cell? ⟨Bp, 1, none⟩ = some (.int .i64 p.w)
  c2 : w.cell? ⟨Bp, 2, none⟩ = some (.int .i64 p.mo)
  c3 : w.cell? ⟨Bp, 3, none⟩ = some (.int .i64 p.y)
  b0 : w.cell? ⟨By, 0, none⟩ = some s
  b1 : w.cell? ⟨By, 1, none⟩ = some (.int .i64 now)
theorem PB.keep {Bp By C : Nat} {p : Pl.Pol} {s : Value} {now : Int} {w w' : World} (h : PB Bp By p s now w) (hb : Below C w w') (h1 : Bp < C) (h2 : By < C) : PB Bp By p s now w' :=
  ⟨(hb.cell (p := ⟨Bp, 0, none⟩) h1).trans h.c0, (hb.cell (p := ⟨Bp, 1, none⟩) h1).trans h.c1, (hb.cell (p := ⟨Bp, 2, none⟩) h1).trans h.c2, (hb.cell (p := ⟨Bp, 3, none⟩) h1).trans h.c3, (hb.cell (p := ⟨By, 0, none⟩) h2).trans h.b0, (hb.cell (p := ⟨By, 1, none⟩) h2).trans h.b1⟩
theorem PB.below {Bp By : Nat} {p : Pl.Pol} {s : Value} {now : Int} {w w' : World} (h : PB Bp By p s now w) (hb : Below w.heap.size w w') : PB Bp By p s now w' :=
  h.keep hb (World.block_lt_of_cell? _ _ h.c0) (World.block_lt_of_cell? _ _ h.b0)
theorem PB.of_rows {Bp By : Nat} {p : Pl.Pol} {s : Value} {now : Int} {w : World} (h1 : w.heap[Bp]? = some (.cells #[.int .i64 p.d, .int .i64 p.w, .int .i64 p.mo, .int .i64 p.y] 23 (0, 0))) (h2 : w.heap[By]? = some (.cells #[s, .int .i64 now] 34 (0, 0))) : PB Bp By p s now w :=
  ⟨cell_row w _ 0 _ _ h1, cell_row w _ 1 _ _ h1, cell_row w _ 2 _ _ h1, cell_row w _ 3 _ _ h1, cell_row w _ 0 _ _ h2, cell_row w _ 1 _ _ h2⟩
/-- Keep, on snapshots that lie anywhere. -/
theorem keep_in (p : Pl.Pol) (l : List Pl.Rf) (now : Int) (s : Value) (w : World) (hn : l.length ≤ 1000000) (hs : ∃ A c, s = .slice A l.length c ∧ Rd w 5 A l.length (rfCs l)) (hfit : ∀ x ∈ l, RfFit x) :
    Calls Tryz.prog 17 #[.agg #[.int .i64 p.d, .int .i64 p.w, .int .i64 p.mo, .int .i64 p.y], s, .int .i64 now] w (RetB (fun v w' => ∃ bk, v = .slice (some ⟨bk, 0, none⟩) l.length l.length ∧ w.heap.size ≤ bk ∧ w'.heap[bk]? = some (.cells (bools (Pl.keepD p l now)).toArray 4 (0, 0))) w) := by
  obtain ⟨A, c, rfl, hr⟩ := hs
  exact keep_any p A l.length c l now w rfl hn hr (fun x hx => ⟨(hfit x hx).1.1.1, (hfit x hx).1.1.2⟩)
theorem rfCs_snoc (l : List Pl.Rf) (x : Pl.Rf) : rfCs (l ++ [x]) = rfCs l ++ rfC x := by simp [rfCs]
theorem rfC_one (x : Pl.Rf) : ∀ u ∈ rfC x, u.oneCell' = true := by
  intro u hu
  simp only [rfC, List.mem_cons, List.not_mem_nil, or_false] at hu
  rcases hu with rfl | rfl | rfl | rfl | rfl <;> rfl
theorem own_rd {w : World} {base n : Nat} {e : TypeId} {v : Value} {xs : List Value} (h : w.ownsRow base e 5 v n xs) : ∃ A c, v = .slice A n c ∧ Rd w 5 A n xs := by
  obtain ⟨A, c, rfl⟩ := own_form' h
  exact ⟨A, c, rfl, Rd.own h⟩
end Go.Proofs.YtmncgnmgdkdhaaaGreatDoor
