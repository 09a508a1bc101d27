/- The walks of the reference's Great and Same. -/
import Derived.Test.YtnapokalopcdkaaShR1
namespace Go.Proofs.Ytnapokalopcdkaa
open Go.RowKit
set_option linter.unusedVariables false
set_option linter.unusedSimpArgs false

def bigO (o : Pl.Obj) : Bool := decide (200 < o.name.length ∨ 500 < o.data.length ∨ 500 < o.was.length)
def greatB (l : List Pl.Obj) (m : Nat) : Bool := decide (30 < l.length ∨ 100 < m) || l.any bigO
def greatI (l : List Pl.Obj) (m : Nat) : Int := if greatB l m then 1 else 0
def NoBig (l : List Pl.Obj) (j : Nat) : Prop := ∀ k (h : k < l.length), k < j → bigO l[k] = false
theorem great_no {l : List Pl.Obj} {m : Nat} (h1 : l.length ≤ 30) (h2 : m ≤ 100) (h : NoBig l l.length) : greatB l m = false := by
  unfold greatB
  rw [Bool.or_eq_false_iff]
  refine ⟨decide_eq_false (by omega), ?_⟩
  rw [List.any_eq_false]
  intro o ho
  obtain ⟨k, hk, rfl⟩ := List.getElem_of_mem ho
  simp [h k hk hk]
theorem great_yes {l : List Pl.Obj} {m j : Nat} (hj : j < l.length) (h : bigO l[j] = true) : greatB l m = true := by
  unfold greatB
  rw [Bool.or_eq_true, List.any_eq_true]
  exact .inr ⟨l[j], List.getElem_mem hj, h⟩
theorem great_of {l : List Pl.Obj} {m : Nat} (h : greatB l m = false) : l.length ≤ 30 ∧ m ≤ 100 ∧ ∀ o ∈ l, o.name.length ≤ 200 ∧ o.data.length ≤ 500 ∧ o.was.length ≤ 500 := by
  unfold greatB at h
  rw [Bool.or_eq_false_iff] at h
  have h1 := of_decide_eq_false h.1
  refine ⟨by omega, by omega, fun o ho => ?_⟩
  have h2 := List.any_eq_false.1 h.2 o ho
  unfold bigO at h2
  simp at h2
  omega
set_option maxRecDepth 100000 in
set_option maxHeartbeats 1000000 in
theorem great_any (A A' : Option Addr) (n c m c' : Nat) (l : List Pl.Obj) (w : World) (hl : l.length = n) (hr : Rd w 4 A n (objCs l)) (hn : n ≤ 140737488355328) :
    Calls Try.prog 8 #[.agg #[.slice A n c, .slice A' m c']] w (RetB (fun v _ => v = .int .i64 (greatI l m)) w) := by
  obtain ⟨G, hG⟩ : ∃ G, greatI l m = G := ⟨_, rfl⟩
  rw [hG]
  have HGG := Lib.hid hG; clear hG
  have HL := Lib.hid hl; clear hl
  by_cases hgt : 30 < n ∨ 100 < m
  · have HG := Lib.hid (show greatB l m = true by unfold greatB; rw [Bool.or_eq_true]; exact .inl (decide_eq_true (by rw [HL.out]; exact hgt)))
    by_cases h30 : 30 < n
    · clear hgt
      go_enter Try.func8, Try.ntmps8
      go_wp2_with fail
      go_ret
      exact ⟨_, rfl, by rw [← HGG.out]; unfold greatI; rw [HG.out]; rfl, (Below.refl _ _).alloc (Nat.le_refl _) _⟩
    · have h100 : 100 < m := by omega
      have h30' : n ≤ 30 := by omega
      clear hgt h30
      go_enter Try.func8, Try.ntmps8
      go_wp2_with fail
      go_ret
      exact ⟨_, rfl, by rw [← HGG.out]; unfold greatI; rw [HG.out]; rfl, (Below.refl _ _).alloc (Nat.le_refl _) _⟩
  · have h30 : n ≤ 30 := by omega
    have h100 : m ≤ 100 := by omega
    clear hgt
    go_enter Try.func8, Try.ntmps8
    go_wp2_with fail
    obtain ⟨V, hV⟩ : ∃ V, w.alloc (.cells #[.slice A n c, .slice A' m c'] 25) = V := ⟨_, rfl⟩
    have hx0 : V.heap[w.heap.size]? = some (.cells #[.slice A n c, .slice A' m c'] 25 (0, 0)) := by rw [← hV]; exact heap_alloc_new w _
    have hbV : Below w.heap.size w V := by rw [← hV]; exact (Below.refl _ _).alloc (Nat.le_refl _) _
    have hrV := hr.below hbV
    rw [hV]
    have HX := Lib.hid hx0; clear hx0 hV hr
    go_loop [17] (fun i => ∃ (j : Nat), j ≤ n ∧ i = .int .i64 (j : Nat) ∧ Hid (NoBig l j)) (fun i => n - (intOf i).toNat)
    case atStart => exact ⟨0, by omega, rfl, (fun k h h' => absurd h' (by omega) : NoBig l 0)⟩
    case round =>
      obtain ⟨j, hj, rfl, HJ⟩ := hrel
      by_cases hjn : j < n
      · have hjl : j < l.length := by rw [HL.out]; exact hjn
        obtain ⟨b, off, rfl, hlt, p0, p1, p2, p3⟩ := hrV.obj HL.out hjn
        obtain ⟨y, hy⟩ : ∃ y, l[j] = y := ⟨_, rfl⟩
        rw [hy] at p0 p1 p2 p3
        have HY := Lib.hid hy; clear hy
        obtain ⟨on, od, ow, oh⟩ := y
        simp only at p0 p1 p2 p3
        have hx0 : V.cell? ⟨w.heap.size, 0, none⟩ = some (.slice (some ⟨b, off, none⟩) n c) := cell_row V _ 0 _ _ HX.out
        go_wp2_with fail
        all_goals first
          | (go_ret
             have hb : bigO l[j] = true := by rw [HY.out]; exact decide_eq_true (by simp only; omega)
             exact ⟨_, rfl, by rw [← HGG.out]; unfold greatI; rw [great_yes hjl hb]; rfl, hbV⟩)
          | (go_round
             case rel =>
               refine ⟨j + 1, by omega, by go_num, Lib.hid (show NoBig l (j + 1) from ?_)⟩
               intro k hk hkj
               rcases Nat.lt_or_ge k j with h1 | h1
               · exact HJ.out k hk h1
               · obtain rfl : k = j := by omega
                 rw [HY.out]; exact decide_eq_false (by simp only; omega)
             case measure => simp [intOf]; omega)
      · obtain rfl : j = n := by omega
        have HG := Lib.hid (show greatB l m = false from great_no (by rw [HL.out]; exact h30) h100 (by rw [HL.out]; exact HJ.out))
        go_wp2_with fail
        go_ret
        exact ⟨_, rfl, by rw [← HGG.out]; unfold greatI; rw [HG.out]; rfl, hbV⟩
end Go.Proofs.Ytnapokalopcdkaa
