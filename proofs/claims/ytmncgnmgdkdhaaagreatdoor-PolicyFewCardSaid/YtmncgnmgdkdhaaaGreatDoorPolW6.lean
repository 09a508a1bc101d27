/- The walk of policy.Keep. -/
import Derived.Test.YtmncgnmgdkdhaaaGreatDoorPolW5
namespace Go.Proofs.YtmncgnmgdkdhaaaGreatDoor
open Go.RowKit
set_option linter.unusedVariables false
set_option linter.unusedSimpArgs false
/-- What Keep returns: a row of its own. -/
def KeepOut (B n : Nat) (K : List Bool) (v : Value) (w' : World) : Prop := ∃ bk, v = .slice (some ⟨bk, 0, none⟩) n n ∧ B ≤ bk ∧ w'.heap[bk]? = some (.cells (bools K).toArray 4 (0, 0))
def AllR (n : Nat) (bk B : Nat) (w : World) (i : Value) (wr : World) : Prop := ∃ j : Nat, j ≤ n ∧ i = .int .i64 j ∧ wr.heap[bk]? = some (.cells (bools (List.replicate j true ++ List.replicate (n - j) false)).toArray 4 (0, 0)) ∧ Below B w wr
theorem set_rep (n j : Nat) (h : j < n) : (List.replicate j true ++ List.replicate (n - j) false).set j true = List.replicate (j + 1) true ++ List.replicate (n - (j + 1)) false := by
  rw [List.set_append, if_neg (by simp)]
  simp only [List.length_replicate, Nat.sub_self]
  rw [show n - j = (n - (j + 1)) + 1 by omega, List.replicate_succ, List.set_cons_zero, List.replicate_succ' (n := j), List.append_assoc]
  rfl
theorem rep_get (n j : Nat) (h : j < n) : (bools (List.replicate j true ++ List.replicate (n - j) false)).toArray[j]? = some (.bool false) := by
  rw [bools_get _ _ (by simp; omega)]
  rw [List.getD_eq_getElem?_getD, List.getElem?_append_right (by simp), List.getElem?_replicate]
  split <;> rfl
set_option maxRecDepth 100000 in
set_option maxHeartbeats 1000000 in
theorem keep_bad (p : Pl.Pol) (A : Option Addr) (n c : Nat) (l : List Pl.Rf) (now : Int) (w : World) (hl : l.length = n) (hn : n ≤ 1000000) (hE : Pl.polE p ≠ 0) :
    Calls Tryz.prog 17 #[polV p, .slice A n c, .int .i64 now] w (RetB (KeepOut w.heap.size n (Pl.keepD p l now)) w) := by
  have hkd : Pl.keepD p l now = List.replicate n true := by
    unfold Pl.keepD
    rw [decide_eq_true hE]
    simp only [Bool.true_or]
    rw [← hl]; exact List.map_const' ..
  have hmk := fun W => make_zeros (P := Tryz.prog) 36 4 (.bool false) 1 Tryz.underlying36 info_bool1 rfl n (by omega) (by omega) W
  have hchk := pcheck_any p
  obtain ⟨E, hEE⟩ : ∃ E, E = Pl.polE p := ⟨_, rfl⟩
  rw [← hEE] at hchk hE
  have hne : ((E : Int) != 0) = true := by rw [bne_iff_ne]; omega
  obtain ⟨K, hK⟩ : ∃ K, K = Pl.keepD p l now := ⟨_, rfl⟩
  rw [← hK] at hkd ⊢
  rw [bools_repl] at hmk
  obtain ⟨d, W, mo, y⟩ := p
  have hP2 : polV ⟨d, W, mo, y⟩ = .agg #[.int .i64 d, .int .i64 W, .int .i64 mo, .int .i64 y] := rfl
  rw [hP2] at hchk ⊢
  have HH := Lib.hid (And.intro hchk (And.intro hkd (And.intro hl hE))); clear hchk hkd hK hEE hP2 hl hE
  go_enter Tryz.func17, Tryz.ntmps17
  go_wp2_with fail
  refine (HH.out.1 _).mono ?_
  rintro e w1 ⟨v, rfl, rfl, hb1⟩
  have hbw := (((Below.refl w.heap.size w).alloc (Nat.le_refl _) (.cells #[.int .i64 d, .int .i64 W, .int .i64 mo, .int .i64 y] 23)).alloc (by simp) (.cells (bools (List.replicate n false)).toArray 4)).trans (hb1.mono (by simp; omega))
  have hk : w1.heap[w.heap.size + 1]? = some (.cells (bools (List.replicate n false)).toArray 4 (0, 0)) := (hb1.block _ (by simp)).trans (heap_alloc_2 w _ _)
  have hsz1 : w.heap.size + 1 < w1.heap.size := blk_lt hk
  clear hb1
  have HK := Lib.hid hk; clear hk
  go_wp2_with fail
  go_loopw [26] (AllR n (w.heap.size + 1) w.heap.size w) (fun i _ => n - (intOf i).toNat)
  case atStart => exact ⟨0, by omega, rfl, by simpa using HK.out, hbw⟩
  case round =>
    obtain ⟨j, hj, rfl, hk, hbr⟩ := hrel
    by_cases hjn : j < n
    · have hc := cell_row wr (w.heap.size + 1) j _ _ hk
      rw [rep_get n j hjn] at hc
      have hf := frozen_of wr (w.heap.size + 1) j _ _ hk
      have j0 : (0 : Int) ≤ (j : Int) := by omega
      have j1 : (j : Int) < (n : Int) := by omega
      have HK := Lib.hid hk; clear hk
      go_wp2_with fail
      refine ⟨⟨j + 1, by omega, rfl, ?_, hbr.setCell (by simp) _⟩, by simp [intOf]; omega⟩
      rw [set_at _ _ _ _ _ _ HK.out, bools_set, set_rep n j hjn]
    · obtain rfl : j = n := by omega
      have HK := Lib.hid hk; clear hk
      go_wp2_with fail
      go_ret
      refine ⟨_, rfl, ⟨_, rfl, Nat.le_succ _, ?_⟩, hbr⟩
      rw [HK.out, HH.out.2.1]; simp
end Go.Proofs.YtmncgnmgdkdhaaaGreatDoor
