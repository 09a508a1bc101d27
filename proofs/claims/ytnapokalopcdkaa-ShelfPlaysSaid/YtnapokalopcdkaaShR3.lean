/- The walk of the reference's Same, where they are the same. -/
import Derived.Test.YtnapokalopcdkaaShR2
import Derived.Laws.StructEq
namespace Go.Proofs.Ytnapokalopcdkaa
open Go.RowKit
set_option linter.unusedVariables false
set_option linter.unusedSimpArgs false

theorem obj_neq (on od ow : ByteArray) (oh : Bool) (w : World) : (Op.equalIn 10000 50 (.agg #[.string on, .string od, .string ow, .bool oh]) (.agg #[.string on, .string od, .string ow, .bool oh])).run Try.prog w = .ok true w := by
  have hS : Try.prog.underlying 50 = some (.struct (Try.prog.fieldsOf 50)) := by kernel_rfl
  have hp : Try.prog.stoodInHeld 50 = false := by kernel_rfl
  have hu1 := Try.underlying9
  have hu2 := Try.underlying4
  rw [show (10000 : Nat) = 9999 + 1 from rfl, run_equalIn_agg w 9999 50 _ _ hS hp]
  simp only [Program.fieldsOf, Try.underlying50]
  go_simp
attribute [local go_sem] obj_neq
set_option maxRecDepth 100000 in
set_option maxHeartbeats 1000000 in
theorem same_yes (A A' A1 A1' : Option Addr) (n c m c' c1 c1' : Nat) (l : List Pl.Obj) (F : List Int) (w : World) (hl : l.length = n) (hF : F.length = m) (hr : Rd w 4 A n (objCs l)) (hr' : Rd w 1 A' m (ints F)) (hs : Rd w 4 A1 n (objCs l)) (hs' : Rd w 1 A1' m (ints F)) (hn : n ≤ 1000000) (hm : m ≤ 1000000) :
    Calls Try.prog 18 #[.agg #[.slice A n c, .slice A' m c'], .agg #[.slice A1 n c1, .slice A1' m c1']] w (RetB (fun v _ => v = .bool true) w) := by
  have HL := Lib.hid (And.intro hl hF); clear hl hF
  go_enter Try.func18, Try.ntmps18
  go_wp2_with fail
  obtain ⟨V, hV⟩ : ∃ V, (w.alloc (.cells #[.slice A n c, .slice A' m c'] 25)).alloc (.cells #[.slice A1 n c1, .slice A1' m c1'] 25) = V := ⟨_, rfl⟩
  have hx0 : V.heap[w.heap.size]? = some (.cells #[.slice A n c, .slice A' m c'] 25 (0, 0)) := by rw [← hV]; exact (Below.heap_alloc _ _ _ (by simp)).trans (heap_alloc_new w _)
  have hx1 : V.heap[w.heap.size + 1]? = some (.cells #[.slice A1 n c1, .slice A1' m c1'] 25 (0, 0)) := by rw [← hV]; exact heap_alloc_2 w _ _
  have hbV : Below w.heap.size w V := by rw [← hV]; exact ((Below.refl _ _).alloc (Nat.le_refl _) _).alloc (by simp) _
  have hrV := hr.below hbV
  have hrV' := hr'.below hbV
  have hsV := hs.below hbV
  have hsV' := hs'.below hbV
  have y0 := cell_row V _ 0 _ _ hx0
  have y1 := cell_row V _ 1 _ _ hx0
  have z0 := cell_row V _ 0 _ _ hx1
  have z1 := cell_row V _ 1 _ _ hx1
  simp only [List.getElem?_toArray, List.getElem?_cons_succ, List.getElem?_cons_zero] at y0 y1 z0 z1
  rw [hV]
  clear hx0 hx1 hV hr hr' hs hs'
  go_loopw [26] (fun i wr => ∃ (j k : Nat), j ≤ n ∧ i = .int .i64 (j : Nat) ∧ wr = V.drewN k) (fun i _ => n - (intOf i).toNat)
  case atStart => exact ⟨0, 0, by omega, rfl, rfl⟩
  case round =>
    obtain ⟨j, k, hj, rfl, rfl⟩ := hrel
    by_cases hjn : j < n
    · obtain ⟨b, off, rfl, hlt, p0, p1, p2, p3⟩ := hrV.obj HL.out.1 hjn
      obtain ⟨b', off', rfl, hlt', r0, r1, r2, r3⟩ := hsV.obj HL.out.1 hjn
      obtain ⟨y, hy⟩ : ∃ y, l[j]'(by rw [HL.out.1]; exact hjn) = y := ⟨_, rfl⟩
      rw [hy] at p0 p1 p2 p3 r0 r1 r2 r3
      clear hy
      obtain ⟨on, od, ow, oh⟩ := y
      simp only at p0 p1 p2 p3 r0 r1 r2 r3
      have hj1 : (0 : Int) ≤ (j : Int) := by omega
      have hj2 : (j : Int) < (n : Int) := by omega
      go_wp2_with fail
      go_quiet (fail)
      go_wp2_with fail
      go_roundw
      case rel => exact ⟨j + 1, _, by omega, by go_num, rfl⟩
      case measure => simp [intOf]; omega
    · obtain rfl : j = n := by omega
      go_wp2_with fail
      go_loopw [44] (fun i wr => ∃ (i' k : Nat), i' ≤ m ∧ i = .int .i64 (i' : Nat) ∧ wr = V.drewN k) (fun i _ => m - (intOf i).toNat)
      case atStart => exact ⟨0, k, by omega, rfl, rfl⟩
      case round =>
        obtain ⟨i, k', hi, rfl, rfl⟩ := hrel
        by_cases him : i < m
        · obtain ⟨b, off, rfl, hlt, p0⟩ := hrV'.at1 him
          obtain ⟨b', off', rfl, hlt', r0⟩ := hsV'.at1 him
          have hiF : i < F.length := by rw [HL.out.2]; exact him
          have hg : (ints F)[i]? = some (.int .i64 F[i]) := by simp [ints, hiF]
          rw [hg] at p0 r0
          clear hg
          obtain ⟨y, hy⟩ : ∃ y, F[i] = y := ⟨_, rfl⟩
          rw [hy] at p0 r0
          clear hy
          have hj1 : (0 : Int) ≤ (i : Int) := by omega
          have hj2 : (i : Int) < (m : Int) := by omega
          go_wp2_with fail
          go_quiet (fail)
          go_wp2_with fail
          go_roundw
          case rel => exact ⟨i + 1, _, by omega, by go_num, rfl⟩
          case measure => simp [intOf]; omega
        · obtain rfl : i = m := by omega
          go_wp2_with fail
          go_ret
          exact ⟨_, rfl, rfl, below_drewN hbV _⟩
end Go.Proofs.Ytnapokalopcdkaa
