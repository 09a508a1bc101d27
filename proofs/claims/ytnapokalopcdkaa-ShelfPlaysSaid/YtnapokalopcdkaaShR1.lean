/- The walks of the reference's find, Great, Same. -/
import Derived.Test.YtnapokalopcdkaaShW7
import Derived.Test.YtnapokalopcdkaaShOps3
namespace Go.Proofs.Ytnapokalopcdkaa
open Go.RowKit
set_option linter.unusedVariables false
set_option linter.unusedSimpArgs false

def zeroO : Pl.Obj := ⟨[], [], [], false⟩
def objV (o : Pl.Obj) : Value := .agg #[.string ⟨o.name.toArray⟩, .string ⟨o.data.toArray⟩, .string ⟨o.was.toArray⟩, .bool o.had]
def FindOut (r : Option Pl.Obj) (v : Value) (_ : World) : Prop := v = .tuple #[objV (r.getD zeroO), .bool r.isSome]
def NoneTo (l : List Pl.Obj) (nm : List UInt8) (j : Nat) : Prop := ∀ k (h : k < l.length), k < j → l[k].name ≠ nm
theorem none_find {l : List Pl.Obj} {nm : List UInt8} (h : NoneTo l nm l.length) : Pl.findO l nm = none := by
  unfold Pl.findO
  rw [List.find?_eq_none]
  intro o ho
  obtain ⟨k, hk, rfl⟩ := List.getElem_of_mem ho
  simpa using h k hk hk
theorem some_find {l : List Pl.Obj} {nm : List UInt8} {j : Nat} (h : NoneTo l nm j) (hj : j < l.length) (he : l[j].name = nm) : Pl.findO l nm = some l[j] := by
  unfold Pl.findO
  rw [List.find?_eq_some_iff_getElem]
  exact ⟨by simpa using he, j, hj, rfl, fun k hk => by simpa using h k (by omega) hk⟩
set_option maxRecDepth 100000 in
set_option maxHeartbeats 1000000 in
theorem rfind_any (A A' : Option Addr) (n c m c' : Nat) (l : List Pl.Obj) (nm : List UInt8) (w : World) (hl : l.length = n) (hr : Rd w 4 A n (objCs l)) (hn : n ≤ 1000000) :
    Calls Try.prog 35 #[.agg #[.slice A n c, .slice A' m c'], .string ⟨nm.toArray⟩] w (RetB (FindOut (Pl.findO l nm)) w) := by
  have HL := Lib.hid hl; clear hl
  go_enter Try.func35, Try.ntmps35
  go_wp2_with fail
  obtain ⟨V, hV⟩ : ∃ V, (w.alloc (.cells #[.slice A n c, .slice A' m c'] 25)).alloc (.cells #[.string ⟨#[]⟩, .string ⟨#[]⟩, .string ⟨#[]⟩, .bool false] 50) = V := ⟨_, rfl⟩
  have hx0 : V.heap[w.heap.size]? = some (.cells #[.slice A n c, .slice A' m c'] 25 (0, 0)) := by rw [← hV]; exact (Below.heap_alloc _ _ _ (by simp)).trans (heap_alloc_new w _)
  have hx1 : V.heap[w.heap.size + 1]? = some (.cells #[.string ⟨#[]⟩, .string ⟨#[]⟩, .string ⟨#[]⟩, .bool false] 50 (0, 0)) := by rw [← hV]; exact heap_alloc_2 w _ _
  have hbV : Below w.heap.size w V := by rw [← hV]; exact ((Below.refl _ _).alloc (Nat.le_refl _) _).alloc (by simp) _
  have hsV : w.heap.size + 2 ≤ V.heap.size := by rw [← hV]; simp
  have hrV := hr.below hbV
  rw [hV]
  have HX := Lib.hid (And.intro hx0 hx1); clear hx0 hx1 hV hr
  go_loop [10] (fun i => ∃ (j : Nat), j ≤ n ∧ i = .int .i64 (j : Nat) ∧ Hid (NoneTo l nm j)) (fun i => n - (intOf i).toNat)
  case atStart => exact ⟨0, by omega, rfl, (fun k h h' => absurd h' (by omega) : NoneTo l nm 0)⟩
  case round =>
    obtain ⟨j, hj, rfl, HJ⟩ := hrel
    have y0 := cell_row V _ 0 _ _ HX.out.2
    have y1 := cell_row V _ 1 _ _ HX.out.2
    have y2 := cell_row V _ 2 _ _ HX.out.2
    have y3 := cell_row V _ 3 _ _ HX.out.2
    have yf := fun i => frozen_of V _ i _ _ HX.out.2
    simp only [List.getElem?_toArray, List.getElem?_cons_succ, List.getElem?_cons_zero] at y0 y1 y2 y3
    by_cases hjn : j < n
    · have hjl : j < l.length := by rw [HL.out]; exact hjn
      obtain ⟨b, off, rfl, hlt, p0, p1, p2, p3⟩ := hrV.obj HL.out hjn
      obtain ⟨y, hy⟩ : ∃ y, l[j] = y := ⟨_, rfl⟩
      rw [hy] at p0 p1 p2 p3
      have HY := Lib.hid hy; clear hy
      obtain ⟨on, od, ow, oh⟩ := y
      simp only at p0 p1 p2 p3
      have hx0 : V.cell? ⟨w.heap.size, 0, none⟩ = some (.slice (some ⟨b, off, none⟩) n c) := cell_row V _ 0 _ _ HX.out.1
      obtain ⟨q, hq⟩ : ∃ q, (on == nm) = q := ⟨_, rfl⟩
      cases q
      · go_wp2_with fail
        go_round
        case rel =>
          refine ⟨j + 1, by omega, by go_num, Lib.hid (show NoneTo l nm (j + 1) from ?_)⟩
          intro k hk hkj
          rcases Nat.lt_or_ge k j with h1 | h1
          · exact HJ.out k hk h1
          · obtain rfl : k = j := by omega
            rw [HY.out]; simpa using hq
        case measure => simp [intOf]; omega
      · have hF := Lib.hid (show Pl.findO l nm = some ⟨on, od, ow, oh⟩ by rw [some_find HJ.out hjl (by rw [HY.out]; simpa using hq), HY.out])
        go_wp2_with fail
        refine bodyPost_ret (v := .tuple #[objV ⟨on, od, ow, oh⟩, .bool true]) (by simp [results, Try.results35, go_sem, y0, y1, y2, y3, objV]) rfl ⟨_, rfl, ?_, ?_⟩
        · rw [hF.out]; rfl
        · exact (((hbV.setCell (by simp) _).setCell (by simp) _).setCell (by simp) _).setCell (by simp) _
    · obtain rfl : j = n := by omega
      have hF := Lib.hid (show Pl.findO l nm = none from none_find (by rw [HL.out]; exact HJ.out))
      go_wp2_with fail
      refine bodyPost_ret (v := .tuple #[objV zeroO, .bool false]) (by simp [results, Try.results35, go_sem, y0, y1, y2, y3, objV, zeroO]) rfl ⟨_, rfl, ?_, ?_⟩
      · rw [hF.out]; rfl
      · exact (((hbV.setCell (by simp) _).setCell (by simp) _).setCell (by simp) _).setCell (by simp) _
end Go.Proofs.Ytnapokalopcdkaa
