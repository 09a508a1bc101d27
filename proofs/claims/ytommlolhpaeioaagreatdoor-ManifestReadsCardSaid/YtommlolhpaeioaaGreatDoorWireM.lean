/- How a message lies in memory; the walks of the document's Great, of wire's loneOf. -/
import Derived.Test.YtommlolhpaeioaaGreatDoorMf4W
import Derived.Test.YtommlolhpaeioaaGreatDoorMfByW
import Derived.Test.YtommlolhpaeioaaGreatDoorMfPl2
namespace Go.Proofs.YtommlolhpaeioaaGreatDoor
open Go.RowKit
set_option linter.unusedVariables false
set_option linter.unusedSimpArgs false
attribute [local go_sem] ba_get ba_cut ba_add
def mgL (m : Pl.Msg) (X : Cx) : List Value := [.int .i64 m.k, .string ⟨m.data.toArray⟩] ++ (snL m.snap X ++ [.int .i64 m.n, .int .i64 m.why])
structure MgFit (m : Pl.Msg) : Prop where
  data : m.data.length ≤ 140737488355328
  snap : SnFit m.snap
theorem mgL_len {w : World} {m : Pl.Msg} {X : Cx} (h : SnOk w m.snap X) : (mgL m X).length = 45 := by simp [mgL, snL_len h]
/-- A message's cells, from a block's head. -/
structure Mg (w : World) (B : Nat) (m : Pl.Msg) (X : Cx) : Prop where
  all : w.rangeAt B 0 (mgL m X)
  k : w.cell? ⟨B, 0, none⟩ = some (.int .i64 m.k)
  data : w.cell? ⟨B, 1, none⟩ = some (.string ⟨m.data.toArray⟩)
  c0 : w.cell? ⟨B, 2, none⟩ = some (.string ⟨m.snap.m.toArray⟩)
  c1 : w.cell? ⟨B, 3, none⟩ = some (.int .i64 m.snap.n)
  c2 : w.cell? ⟨B, 4, none⟩ = some (.int .i64 m.snap.at_)
  c3 : w.cell? ⟨B, 5, none⟩ = some (.int .u64 m.snap.clock)
  c4 : w.cell? ⟨B, 6, none⟩ = some (.int .i64 m.snap.pages)
  c5 : w.cell? ⟨B, 7, none⟩ = some (.int .i64 m.snap.blocks)
  c6 : w.cell? ⟨B, 8, none⟩ = some (.slice X.A0 X.n0 X.k0)
  c7 : w.cell? ⟨B, 9, none⟩ = some (.slice X.A1 X.n1 X.k1)
  c8 : w.cell? ⟨B, 10, none⟩ = some (.slice X.A2 X.n2 X.k2)
  snap : w.rangeAt B 2 (snL m.snap X)
  sum : w.rangeAt B 11 (byC m.snap.sum)
  n : w.cell? ⟨B, 43, none⟩ = some (.int .i64 m.n)
  why : w.cell? ⟨B, 44, none⟩ = some (.int .i64 m.why)
theorem mg_of {w : World} {B : Nat} {m : Pl.Msg} {X : Cx} (hs : m.snap.sum.length = 32) (h : w.rangeAt B 0 (mgL m X)) : Mg w B m X := by
  have g : ∀ j v, (mgL m X)[j]? = some v → w.cell? ⟨B, j, none⟩ = some v := fun j v hv => by have := h j v hv; rwa [Nat.zero_add] at this
  have hl : (snL m.snap X).length = 41 := by simp [snL, byC_len, hs]
  have gs : ∀ j v, (snL m.snap X)[j]? = some v → w.cell? ⟨B, 2 + j, none⟩ = some v := fun j v hv => g (2 + j) v (by
    have hj : j < 41 := by
      rcases Nat.lt_or_ge j 41 with h1 | h1
      · exact h1
      · rw [List.getElem?_eq_none (by omega)] at hv; cases hv
    unfold mgL
    rw [List.getElem?_append_right (by simp), List.getElem?_append_left (by simp; omega)]
    simpa using hv)
  have g43 : (mgL m X)[43]? = some (.int .i64 m.n) := by
    unfold mgL
    rw [List.getElem?_append_right (by simp), List.getElem?_append_right (by simp [hl])]
    simp [hl]
  have g44 : (mgL m X)[44]? = some (.int .i64 m.why) := by
    unfold mgL
    rw [List.getElem?_append_right (by simp), List.getElem?_append_right (by simp [hl])]
    simp [hl]
  exact ⟨h, g 0 _ rfl, g 1 _ rfl, gs 0 _ rfl, gs 1 _ rfl, gs 2 _ rfl, gs 3 _ rfl, gs 4 _ rfl, gs 5 _ rfl, gs 6 _ rfl, gs 7 _ rfl, gs 8 _ rfl, gs, fun j v hv => by
    have := gs (9 + j) v (by simpa [snL, Nat.add_comm] using hv)
    rwa [show 2 + (9 + j) = 11 + j by omega] at this, g 43 _ g43, g 44 _ g44⟩
theorem mg_row {w : World} {B : Nat} {m : Pl.Msg} {X : Cx} {t : TypeId} (hs : m.snap.sum.length = 32) (h : w.heap[B]? = some (.cells (mgL m X).toArray t (0, 0))) : Mg w B m X := mg_of hs (range_row h)
theorem Mg.keep {w w' : World} {B B' : Nat} {m : Pl.Msg} {X : Cx} (h : Mg w B m X) (hs : m.snap.sum.length = 32) (hB : B < B') (hb : Below B' w w') : Mg w' B m X :=
  mg_of hs fun j v hv => (hb.cell (p := ⟨B, 0 + j, none⟩) hB).trans (h.all j v hv)
theorem mg_three {V : World} {B : Nat} {m : Pl.Msg} {X : Cx} (hx : Mg V B m X) {k : Nat} (hk : k < 3) : ∃ A n c, V.cell? ⟨B, 8 + k, none⟩ = some (.slice A n c) ∧ (∀ w, SnOk w m.snap X → SlAt w 1 A n c (strs (Pl.ck m.snap k))) := by
  obtain rfl | rfl | rfl : k = 0 ∨ k = 1 ∨ k = 2 := by omega
  · exact ⟨_, _, _, hx.c6, fun w h => h.s0⟩
  · exact ⟨_, _, _, hx.c7, fun w h => h.s1⟩
  · exact ⟨_, _, _, hx.c8, fun w h => h.s2⟩
theorem results_cell {fn : Func} {tmps : Array Value} {w : World} {a B : Nat} {T : TypeId} {cs : List Value} {d : TypeDesc} (hf : fn.results = #[.cell a T]) (ha : tmps[a]?.getD undef = .pointer (some ⟨B, 0, none⟩)) (hc : w.rangeAt B 0 cs) (hu : Tryz.prog.underlying T = some d) (hd : d.isRow = true) (hi : (Tryz.prog.info? T).map (·.size) = some cs.length) :
    (results fn tmps).run Tryz.prog w = .ok (.agg cs.toArray) w := by
  have h := run_loadVar_mid (P := Tryz.prog) w B 0 T cs d hc hu hd hi
  simp [results, hf, ha, asAddr, h, Sem.run_bind]
theorem results_cell2 {fn : Func} {tmps : Array Value} {w : World} {a b B : Nat} {T : TypeId} {cs : List Value} {d : TypeDesc} (hf : fn.results = #[.cell a T, .tmp b]) (ha : tmps[a]?.getD undef = .pointer (some ⟨B, 0, none⟩)) (hc : w.rangeAt B 0 cs) (hu : Tryz.prog.underlying T = some d) (hd : d.isRow = true) (hi : (Tryz.prog.info? T).map (·.size) = some cs.length) :
    (results fn tmps).run Tryz.prog w = .ok (.tuple #[.agg cs.toArray, tmps.getD b undef]) w := by
  have h := run_loadVar_mid (P := Tryz.prog) w B 0 T cs d hc hu hd hi
  simp [results, hf, ha, asAddr, h, Sem.run_bind]
def loneL (m : Pl.Msg) : List Value := [.string ⟨m.data.toArray⟩, .string ⟨m.snap.m.toArray⟩, .int .i64 m.snap.n, .int .i64 m.snap.at_, .int .u64 m.snap.clock, .int .i64 m.snap.pages, .int .i64 m.snap.blocks, .int .i64 m.n, .int .i64 m.why]
theorem lone_one (m : Pl.Msg) : (loneL m).toArray.all (·.oneCell') = true := all_oneCell_toArray fun v hv => by
  simp only [loneL, List.mem_cons, List.not_mem_nil, or_false] at hv
  rcases hv with rfl | rfl | rfl | rfl | rfl | rfl | rfl | rfl | rfl <;> rfl
end Go.Proofs.YtommlolhpaeioaaGreatDoor
