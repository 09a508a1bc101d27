/- Law 49's Great: are snapshots more than are looked at? -/
import Derived.Test.YtmncgnmgdkdhaaaGreatDoorPolAv
import Derived.Test.YtmncgnmgdkdhaaaGreatDoorOpenPo
namespace Go.Proofs.YtmncgnmgdkdhaaaGreatDoor
open Go.RowKit
set_option linter.unusedVariables false
set_option linter.unusedSimpArgs false
def Pl.great49 (l : List Pl.Rf) : Bool := decide (50 < l.length) || l.any fun x => decide (100 < x.m.length)
theorem Pl.great49_yes {l : List Pl.Rf} {j : Nat} (hj : j < l.length) (h : 100 < (l.getD j default).m.length) : Pl.great49 l = true := by
  unfold Pl.great49
  rw [Bool.or_eq_true]; right
  rw [List.any_eq_true]
  exact ⟨_, Pl.getD_mem l j hj, decide_eq_true h⟩
theorem Pl.great49_len {l : List Pl.Rf} (h : ∀ j, j < l.length → ¬ 100 < (l.getD j default).m.length) : Pl.great49 l = decide (50 < l.length) := by
  unfold Pl.great49
  have : (l.any fun x => decide (100 < x.m.length)) = false := by
    rw [List.any_eq_false]
    intro x hx
    obtain ⟨j, hj, rfl⟩ := Pl.ex_getD hx
    simpa using h j hj
  rw [this, Bool.or_false]
theorem Pl.great49_few {l : List Pl.Rf} (h : Pl.great49 l = false) : l.length ≤ 50 := by
  unfold Pl.great49 at h
  rw [Bool.or_eq_false_iff] at h
  simpa using h.1
set_option maxRecDepth 100000 in
set_option maxHeartbeats 4000000 in
theorem great49_any (s : Value) (l : List Pl.Rf) (w : World) (h : RfsIn w s l) : Calls Tryz.prog 16 #[s] w (RetB (fun v _ => v = .int .i64 (if Pl.great49 l then 1 else 0)) w) := by
  obtain ⟨A, c, rfl, hr, -, hbig, hfit⟩ := h
  obtain ⟨F, hF⟩ : ∃ F : Int, F = if Pl.great49 l then 1 else 0 := ⟨_, rfl⟩
  rw [← hF]
  obtain ⟨N, hN⟩ : ∃ N, N = l.length := ⟨_, rfl⟩
  rw [← hN] at hr ⊢
  have hNb : N ≤ 140737488355328 := by omega
  have HH := Lib.hid (And.intro hr (And.intro hF (And.intro hN hfit))); clear hr hF hN hfit hbig
  go_enter Tryz.func16, Tryz.ntmps16
  go_wp2_with fail
  go_loopw [7] (fun i wr => ∃ j : Nat, j ≤ N ∧ i = .int .i64 j ∧ (∀ q, q < j → ¬ 100 < (l.getD q default).m.length) ∧ Below w.heap.size w wr) (fun i _ => N - (intOf i).toNat)
  case atStart => exact ⟨0, by omega, rfl, fun q hq => absurd hq (by omega), Below.refl _ _⟩
  case round =>
    obtain ⟨j, hj, rfl, hq, hb⟩ := hrel
    by_cases hjn : j < N
    · obtain ⟨b, off, hA, hbw, hrf⟩ := (HH.out.1.below hb).rf HH.out.2.2.1.symm hjn
      subst hA
      obtain ⟨y, hy⟩ : ∃ y, l.getD j default = y := ⟨_, rfl⟩
      obtain ⟨c0, c1, c2, c3, c4⟩ := hrf y hy
      obtain ⟨-, hf1, hf2⟩ := HH.out.2.2.2 y (by rw [← hy]; exact Pl.getD_mem l j (by rw [← HH.out.2.2.1]; exact hjn))
      obtain ⟨ym, yn, yt, ynm, ytil⟩ := y
      simp only at c0 c1 c2 c3 c4 hf1 hf2
      have j0 : (0 : Int) ≤ (j : Int) := by omega
      have j1 : (j : Int) < (N : Int) := by omega
      have HQ := Lib.hid (And.intro hq (And.intro hy hb)); clear hq hy hrf hb
      go_upto_region 4 with (fail)
      generalize hV : World.alloc wr _ = V
      have hz : V.heap[wr.heap.size]? = some (.cells #[.string ⟨ym.toArray⟩, .int .i64 yn, .int .i64 yt, .string ⟨ynm.toArray⟩, .int .i64 ytil] 39 (0, 0)) := by rw [← hV]; exact heap_alloc_new wr _
      have hbV : Below w.heap.size w V := by rw [← hV]; exact HQ.out.2.2.alloc HQ.out.2.2.size _
      have z0 : V.cell? ⟨wr.heap.size, 0, none⟩ = some (.string ⟨ym.toArray⟩) := cell_row V _ 0 _ _ hz
      clear hV hz c0 c1 c2 c3 c4
      generalize wr.heap.size = Bx at z0 ⊢
      by_cases hm : 100 < ym.length
      · have hm' : (100 : Int) < (ym.length : Int) := by omega
        go_wp2_with fail
        go_ret
        refine ⟨_, rfl, ?_, hbV⟩
        rw [HH.out.2.1, Pl.great49_yes (j := j) (by rw [← HH.out.2.2.1]; exact hjn) (by rw [HQ.out.2.1]; exact hm)]
        rfl
      · have hm' : ¬ (100 : Int) < (ym.length : Int) := by omega
        go_wp2_with fail
        refine ⟨⟨j + 1, by omega, by rw [Int.natCast_add]; rfl, fun q hqj => ?_, hbV⟩, by simp [intOf]; omega⟩
        rcases Nat.lt_or_ge q j with h | h
        · exact HQ.out.1 q h
        · obtain rfl : q = j := by omega
          rw [HQ.out.2.1]; exact hm
    · obtain rfl : j = N := by omega
      have hg := Pl.great49_len (l := l) (by rw [← HH.out.2.2.1]; exact hq)
      rw [← HH.out.2.2.1] at hg
      have HQ := Lib.hid hg; clear hg hq
      by_cases h50 : 50 < j
      · have h50' : (50 : Int) < (j : Int) := by omega
        go_wp2_with fail
        go_ret
        exact ⟨_, rfl, by rw [HH.out.2.1, HQ.out, decide_eq_true h50]; rfl, hb⟩
      · have h50' : ¬ (50 : Int) < (j : Int) := by omega
        go_wp2_with fail
        go_ret
        exact ⟨_, rfl, by rw [HH.out.2.1, HQ.out, decide_eq_false h50]; rfl, hb⟩
end Go.Proofs.YtmncgnmgdkdhaaaGreatDoor
