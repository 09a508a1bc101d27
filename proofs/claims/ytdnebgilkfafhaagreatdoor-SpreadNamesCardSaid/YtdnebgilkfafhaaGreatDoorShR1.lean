/- The walks of the reference's find, Great, Same. The walks of the reference's Great and Same. The walk of the reference's Same, where they are the same. -/
import Derived.Test.YtdnebgilkfafhaaGreatDoorShW1
import Derived.Test.YtdnebgilkfafhaaGreatDoorShPlain
import Derived.Laws.StructEq
namespace Go.Proofs.YtdnebgilkfafhaaGreatDoor
open Go.RowKit
set_option linter.unusedVariables false
set_option linter.unusedSimpArgs false

def zeroO : Pl.Obj := ⟨[], [], [], false⟩
def objV (o : Pl.Obj) : Value := .agg #[.string ⟨o.name.toArray⟩, .string ⟨o.data.toArray⟩, .string ⟨o.was.toArray⟩, .bool o.had]
def FindOut (r : Option Pl.Obj) (v : Value) (_ : World) : Prop := v = .tuple #[objV (r.getD zeroO), .bool r.isSome]
def NoneTo (l : List Pl.Obj) (nm : List UInt8) (j : Nat) : Prop := ∀ k (h : k < l.length), k < j → l[k].name ≠ nm
theorem none_find {l : List Pl.Obj} {nm : List UInt8} (h : NoneTo l nm l.length) : Pl.findO l nm = none := by
  unfold Pl.findO
  rw [List.find?_eq_none]
  intro o ho
  obtain ⟨k, hk, rfl⟩ := List.getElem_of_mem ho
  simpa using h k hk hk
theorem some_find {l : List Pl.Obj} {nm : List UInt8} {j : Nat} (h : NoneTo l nm j) (hj : j < l.length) (he : l[j].name = nm) : Pl.findO l nm = some l[j] := by
  unfold Pl.findO
  rw [List.find?_eq_some_iff_getElem]
  exact ⟨by simpa using he, j, hj, rfl, fun k hk => by simpa using h k (by omega) hk⟩
set_option maxRecDepth 100000 in
set_option maxHeartbeats 1000000 in
theorem rfind_any (A A' : Option Addr) (n c m c' : Nat) (l : List Pl.Obj) (nm : List UInt8) (w : World) (hl : l.length = n) (hr : Rd w 4 A n (objCs l)) (hn : n ≤ 2513169434900) :
    Calls Tryz.prog 168 #[.agg #[.slice A n c, .slice A' m c'], .string ⟨nm.toArray⟩] w (RetB (FindOut (Pl.findO l nm)) w) := by
  have HL := Lib.hid hl; clear hl
  go_enter Tryz.func168, Tryz.ntmps168
  go_wp2_with fail
  obtain ⟨V, hV⟩ : ∃ V, (w.alloc (.cells #[.slice A n c, .slice A' m c'] 26)).alloc (.cells #[.string ⟨#[]⟩, .string ⟨#[]⟩, .string ⟨#[]⟩, .bool false] 49) = V := ⟨_, rfl⟩
  have hx0 : V.heap[w.heap.size]? = some (.cells #[.slice A n c, .slice A' m c'] 26 (0, 0)) := by rw [← hV]; exact (Below.heap_alloc _ _ _ (by simp)).trans (heap_alloc_new w _)
  have hx1 : V.heap[w.heap.size + 1]? = some (.cells #[.string ⟨#[]⟩, .string ⟨#[]⟩, .string ⟨#[]⟩, .bool false] 49 (0, 0)) := by rw [← hV]; exact heap_alloc_2 w _ _
  have hbV : Below w.heap.size w V := by rw [← hV]; exact ((Below.refl _ _).alloc (Nat.le_refl _) _).alloc (by simp) _
  have hsV : w.heap.size + 2 ≤ V.heap.size := by rw [← hV]; simp
  have hrV := hr.below hbV
  rw [hV]
  have HX := Lib.hid (And.intro hx0 hx1); clear hx0 hx1 hV hr
  go_loop [10] (fun i => ∃ (j : Nat), j ≤ n ∧ i = .int .i64 (j : Nat) ∧ Hid (NoneTo l nm j)) (fun i => n - (intOf i).toNat)
  case atStart => exact ⟨0, by omega, rfl, (fun k h h' => absurd h' (by omega) : NoneTo l nm 0)⟩
  case round =>
    obtain ⟨j, hj, rfl, HJ⟩ := hrel
    have y0 := cell_row V _ 0 _ _ HX.out.2
    have y1 := cell_row V _ 1 _ _ HX.out.2
    have y2 := cell_row V _ 2 _ _ HX.out.2
    have y3 := cell_row V _ 3 _ _ HX.out.2
    have yf := fun i => frozen_of V _ i _ _ HX.out.2
    simp only [List.getElem?_toArray, List.getElem?_cons_succ, List.getElem?_cons_zero] at y0 y1 y2 y3
    by_cases hjn : j < n
    · have hjl : j < l.length := by rw [HL.out]; exact hjn
      obtain ⟨b, off, rfl, hlt, p0, p1, p2, p3⟩ := hrV.obj HL.out hjn
      obtain ⟨y, hy⟩ : ∃ y, l[j] = y := ⟨_, rfl⟩
      rw [hy] at p0 p1 p2 p3
      have HY := Lib.hid hy; clear hy
      obtain ⟨on, od, ow, oh⟩ := y
      simp only at p0 p1 p2 p3
      have hx0 : V.cell? ⟨w.heap.size, 0, none⟩ = some (.slice (some ⟨b, off, none⟩) n c) := cell_row V _ 0 _ _ HX.out.1
      obtain ⟨q, hq⟩ : ∃ q, (on == nm) = q := ⟨_, rfl⟩
      cases q
      · go_wp2_with fail
        go_round
        case rel =>
          refine ⟨j + 1, by omega, by go_num, Lib.hid (show NoneTo l nm (j + 1) from ?_)⟩
          intro k hk hkj
          rcases Nat.lt_or_ge k j with h1 | h1
          · exact HJ.out k hk h1
          · obtain rfl : k = j := by omega
            rw [HY.out]; simpa using hq
        case measure => simp [intOf]; omega
      · have hF := Lib.hid (show Pl.findO l nm = some ⟨on, od, ow, oh⟩ by rw [some_find HJ.out hjl (by rw [HY.out]; simpa using hq), HY.out])
        go_wp2_with fail
        refine bodyPost_ret (v := .tuple #[objV ⟨on, od, ow, oh⟩, .bool true]) (by simp [results, Tryz.results168, go_sem, y0, y1, y2, y3, objV]) rfl ⟨_, rfl, ?_, ?_⟩
        · rw [hF.out]; rfl
        · exact (((hbV.setCell (by simp) _).setCell (by simp) _).setCell (by simp) _).setCell (by simp) _
    · obtain rfl : j = n := by omega
      have hF := Lib.hid (show Pl.findO l nm = none from none_find (by rw [HL.out]; exact HJ.out))
      go_wp2_with fail
      refine bodyPost_ret (v := .tuple #[objV zeroO, .bool false]) (by simp [results, Tryz.results168, go_sem, y0, y1, y2, y3, objV, zeroO]) rfl ⟨_, rfl, ?_, ?_⟩
      · rw [hF.out]; rfl
      · exact (((hbV.setCell (by simp) _).setCell (by simp) _).setCell (by simp) _).setCell (by simp) _
end Go.Proofs.YtdnebgilkfafhaaGreatDoor
namespace Go.Proofs.YtdnebgilkfafhaaGreatDoor
open Go.RowKit
set_option linter.unusedVariables false
set_option linter.unusedSimpArgs false

def bigO (o : Pl.Obj) : Bool := decide (200 < o.name.length ∨ 500 < o.data.length ∨ 500 < o.was.length)
def greatB (l : List Pl.Obj) (m : Nat) : Bool := decide (30 < l.length ∨ 100 < m) || l.any bigO
def greatI (l : List Pl.Obj) (m : Nat) : Int := if greatB l m then 1 else 0
def NoBig (l : List Pl.Obj) (j : Nat) : Prop := ∀ k (h : k < l.length), k < j → bigO l[k] = false
theorem great_no {l : List Pl.Obj} {m : Nat} (h1 : l.length ≤ 30) (h2 : m ≤ 100) (h : NoBig l l.length) : greatB l m = false := by
  unfold greatB
  rw [Bool.or_eq_false_iff]
  refine ⟨decide_eq_false (by omega), ?_⟩
  rw [List.any_eq_false]
  intro o ho
  obtain ⟨k, hk, rfl⟩ := List.getElem_of_mem ho
  simp [h k hk hk]
theorem great_yes {l : List Pl.Obj} {m j : Nat} (hj : j < l.length) (h : bigO l[j] = true) : greatB l m = true := by
  unfold greatB
  rw [Bool.or_eq_true, List.any_eq_true]
  exact .inr ⟨l[j], List.getElem_mem hj, h⟩
theorem great_of {l : List Pl.Obj} {m : Nat} (h : greatB l m = false) : l.length ≤ 30 ∧ m ≤ 100 ∧ ∀ o ∈ l, o.name.length ≤ 200 ∧ o.data.length ≤ 500 ∧ o.was.length ≤ 500 := by
  unfold greatB at h
  rw [Bool.or_eq_false_iff] at h
  have h1 := of_decide_eq_false h.1
  refine ⟨by omega, by omega, fun o ho => ?_⟩
  have h2 := List.any_eq_false.1 h.2 o ho
  unfold bigO at h2
  simp at h2
  omega
end Go.Proofs.YtdnebgilkfafhaaGreatDoor
namespace Go.Proofs.YtdnebgilkfafhaaGreatDoor
open Go.RowKit
set_option linter.unusedVariables false
set_option linter.unusedSimpArgs false

theorem obj_neq (on od ow : ByteArray) (oh : Bool) (w : World) : (Op.equalIn 10000 49 (.agg #[.string on, .string od, .string ow, .bool oh]) (.agg #[.string on, .string od, .string ow, .bool oh])).run Tryz.prog w = .ok true w := by
  have hS : Tryz.prog.underlying 49 = some (.struct (Tryz.prog.fieldsOf 49)) := by kernel_rfl
  have hp : Tryz.prog.stoodInHeld 49 = false := by kernel_rfl
  have hu1 := Tryz.underlying9
  have hu2 := Tryz.underlying4
  rw [show (10000 : Nat) = 9999 + 1 from rfl, run_equalIn_agg w 9999 49 _ _ hS hp]
  simp only [Program.fieldsOf, Tryz.underlying49]
  go_simp
attribute [local go_sem] obj_neq
set_option maxRecDepth 100000 in
set_option maxHeartbeats 1000000 in
theorem same_yes (A A' A1 A1' : Option Addr) (n c m c' c1 c1' : Nat) (l : List Pl.Obj) (F : List Int) (w : World) (hl : l.length = n) (hF : F.length = m) (hr : Rd w 4 A n (objCs l)) (hr' : Rd w 1 A' m (ints F)) (hs : Rd w 4 A1 n (objCs l)) (hs' : Rd w 1 A1' m (ints F)) (hn : n ≤ 2513169434900) (hm : m ≤ 17592186044000) :
    Calls Tryz.prog 64 #[.agg #[.slice A n c, .slice A' m c'], .agg #[.slice A1 n c1, .slice A1' m c1']] w (RetB (fun v _ => v = .bool true) w) := by
  have HL := Lib.hid (And.intro hl hF); clear hl hF
  go_enter Tryz.func64, Tryz.ntmps64
  go_wp2_with fail
  obtain ⟨V, hV⟩ : ∃ V, (w.alloc (.cells #[.slice A n c, .slice A' m c'] 26)).alloc (.cells #[.slice A1 n c1, .slice A1' m c1'] 26) = V := ⟨_, rfl⟩
  have hx0 : V.heap[w.heap.size]? = some (.cells #[.slice A n c, .slice A' m c'] 26 (0, 0)) := by rw [← hV]; exact (Below.heap_alloc _ _ _ (by simp)).trans (heap_alloc_new w _)
  have hx1 : V.heap[w.heap.size + 1]? = some (.cells #[.slice A1 n c1, .slice A1' m c1'] 26 (0, 0)) := by rw [← hV]; exact heap_alloc_2 w _ _
  have hbV : Below w.heap.size w V := by rw [← hV]; exact ((Below.refl _ _).alloc (Nat.le_refl _) _).alloc (by simp) _
  have hrV := hr.below hbV
  have hrV' := hr'.below hbV
  have hsV := hs.below hbV
  have hsV' := hs'.below hbV
  have y0 := cell_row V _ 0 _ _ hx0
  have y1 := cell_row V _ 1 _ _ hx0
  have z0 := cell_row V _ 0 _ _ hx1
  have z1 := cell_row V _ 1 _ _ hx1
  simp only [List.getElem?_toArray, List.getElem?_cons_succ, List.getElem?_cons_zero] at y0 y1 z0 z1
  rw [hV]
  clear hx0 hx1 hV hr hr' hs hs'
  go_loopw [26] (fun i wr => ∃ (j k : Nat), j ≤ n ∧ i = .int .i64 (j : Nat) ∧ wr = V.drewN k) (fun i _ => n - (intOf i).toNat)
  case atStart => exact ⟨0, 0, by omega, rfl, rfl⟩
  case round =>
    obtain ⟨j, k, hj, rfl, rfl⟩ := hrel
    by_cases hjn : j < n
    · obtain ⟨b, off, rfl, hlt, p0, p1, p2, p3⟩ := hrV.obj HL.out.1 hjn
      obtain ⟨b', off', rfl, hlt', r0, r1, r2, r3⟩ := hsV.obj HL.out.1 hjn
      obtain ⟨y, hy⟩ : ∃ y, l[j]'(by rw [HL.out.1]; exact hjn) = y := ⟨_, rfl⟩
      rw [hy] at p0 p1 p2 p3 r0 r1 r2 r3
      clear hy
      obtain ⟨on, od, ow, oh⟩ := y
      simp only at p0 p1 p2 p3 r0 r1 r2 r3
      have hj1 : (0 : Int) ≤ (j : Int) := by omega
      have hj2 : (j : Int) < (n : Int) := by omega
      go_wp2_with fail
      go_quiet (fail)
      go_wp2_with fail
      go_roundw
      case rel => exact ⟨j + 1, _, by omega, by go_num, rfl⟩
      case measure => simp [intOf]; omega
    · obtain rfl : j = n := by omega
      go_wp2_with fail
      go_loopw [44] (fun i wr => ∃ (i' k : Nat), i' ≤ m ∧ i = .int .i64 (i' : Nat) ∧ wr = V.drewN k) (fun i _ => m - (intOf i).toNat)
      case atStart => exact ⟨0, k, by omega, rfl, rfl⟩
      case round =>
        obtain ⟨i, k', hi, rfl, rfl⟩ := hrel
        by_cases him : i < m
        · obtain ⟨b, off, rfl, hlt, p0⟩ := hrV'.at1 him
          obtain ⟨b', off', rfl, hlt', r0⟩ := hsV'.at1 him
          have hiF : i < F.length := by rw [HL.out.2]; exact him
          have hg : (ints F)[i]? = some (.int .i64 F[i]) := by simp [ints, hiF]
          rw [hg] at p0 r0
          clear hg
          obtain ⟨y, hy⟩ : ∃ y, F[i] = y := ⟨_, rfl⟩
          rw [hy] at p0 r0
          clear hy
          have hj1 : (0 : Int) ≤ (i : Int) := by omega
          have hj2 : (i : Int) < (m : Int) := by omega
          go_wp2_with fail
          go_quiet (fail)
          go_wp2_with fail
          go_roundw
          case rel => exact ⟨i + 1, _, by omega, by go_num, rfl⟩
          case measure => simp [intOf]; omega
        · obtain rfl : i = m := by omega
          go_wp2_with fail
          go_ret
          exact ⟨_, rfl, rfl, below_drewN hbV _⟩
end Go.Proofs.YtdnebgilkfafhaaGreatDoor
