/- The walks of cmp.Compare at texts, int64 and int, of cmp.Or at int, and of the closure that orders places. -/
import Derived.Test.YtmncgnmgdkdhaaaGreatDoorPolMem
import Derived.Test.YtmncgnmgdkdhaaaGreatDoorPolOrd
import Derived.LoopTactic
import Derived.Deep.Cut
import Derived.Deep.RegionHeld3
namespace Go.Proofs.YtmncgnmgdkdhaaaGreatDoor
open Go.RowKit
set_option linter.unusedVariables false
set_option linter.unusedSimpArgs false
set_option maxRecDepth 100000 in
theorem cmpStr_any (a b : List UInt8) (w : World) : Calls Tryz.prog 48 #[.string ⟨a.toArray⟩, .string ⟨b.toArray⟩] w (Ret (.int .i64 (Lib.compareBytes a b)) w) := by
  obtain ⟨E, hE⟩ : ∃ E, E = Lib.compareBytes a b := ⟨_, rfl⟩
  rw [← hE]
  obtain ⟨h1, h2, h3⟩ := Pl.less_cmp a b
  obtain ⟨q1, hq1⟩ : ∃ q, Op.bytesLess a b = q := ⟨_, rfl⟩
  obtain ⟨q2, hq2⟩ : ∃ q, (a == b) = q := ⟨_, rfl⟩
  have HE := Lib.hid hE; clear hE
  have e1 : q1 = true → E = -1 := fun h => by rw [HE.out]; exact h1.1 (hq1.trans h)
  have e2 : q1 = false → q2 = false → E = 1 := by
    intro f1 f2
    rw [HE.out]
    rcases h3 with h | h | h
    · have := h1.2 h; unfold Pl.less at this; rw [hq1, f1] at this; cases this
    · have := h2.2 h; rw [f2] at hq2; rw [beq_eq_false_iff_ne] at hq2; exact absurd this hq2
    · exact h
  have e3 : q2 = true → E = 0 := by
    intro f2
    rw [HE.out]
    exact h2.1 (beq_iff_eq.1 (hq2.trans f2))
  have HH := Lib.hid (And.intro e1 (And.intro e2 e3)); clear e1 e2 e3 h1 h2 h3
  cases q1 <;> cases q2
  all_goals
    go_enter Tryz.func48, Tryz.ntmps48
    go_wp2
    go_ret
    refine ⟨?_, rfl⟩
    have := HH.out
    simp at this
    first
      | (rw [this]; rfl)
      | (obtain ⟨e1, e2⟩ := this; rw [e1] at e2; cases e2)
set_option maxRecDepth 100000 in
theorem cmpI64_any (a b : Int) (w : World) : Calls Tryz.prog 49 #[.int .i64 a, .int .i64 b] w (Ret (.int .i64 (Lib.compareInt a b)) w) := by
  unfold Lib.compareInt
  go_enter Tryz.func49, Tryz.ntmps49
  go_wp2
  all_goals
    go_ret
    exact ⟨rfl, rfl⟩
set_option maxRecDepth 100000 in
theorem cmpInt_any (a b : Int) (w : World) : Calls Tryz.prog 50 #[.int .i64 a, .int .i64 b] w (Ret (.int .i64 (Lib.compareInt a b)) w) := by
  unfold Lib.compareInt
  go_enter Tryz.func50, Tryz.ntmps50
  go_wp2
  all_goals
    go_ret
    exact ⟨rfl, rfl⟩
def or4 (a b c d : Int) : Int := if a ≠ 0 then a else if b ≠ 0 then b else if c ≠ 0 then c else d
def orL : List Int → Int
  | [] => 0
  | a :: r => if a ≠ 0 then a else orL r
theorem orL4 (a b c d : Int) : orL [a, b, c, d] = or4 a b c d := by
  unfold or4 orL orL orL orL orL
  by_cases h : d = 0
  · simp [h]
  · simp [h]
theorem orL_drop (N : List Int) (k : Nat) (h : k < N.length) : orL (N.drop k) = if N.getD k 0 ≠ 0 then N.getD k 0 else orL (N.drop (k + 1)) := by
  have e : N.drop k = N.getD k 0 :: N.drop (k + 1) := by
    rw [List.drop_eq_getElem_cons h, List.getD_eq_getElem?_getD, List.getElem?_eq_getElem h]; rfl
  rw [e]; rfl
set_option maxRecDepth 100000 in
theorem or_any (B : Nat) (N : List Int) (n : Nat) (hN : N.length = n) (hn : n ≤ 1000) (w : World) (hc : ∀ k, k < n → w.cell? ⟨B, k, none⟩ = some (.int .i64 (N.getD k 0))) : Calls Tryz.prog 47 #[.slice (some ⟨B, 0, none⟩) n n] w (Ret (.int .i64 (orL N)) w) := by
  obtain ⟨E, hE⟩ : ∃ E, E = orL N := ⟨_, rfl⟩
  rw [← hE]
  have HC := Lib.hid (And.intro hc (And.intro hE hN)); clear hc hE hN
  go_enter Tryz.func47, Tryz.ntmps47
  go_wp2_with fail
  go_loop [8] (fun i => ∃ k : Nat, k ≤ n ∧ i = .int .i64 k ∧ orL (N.drop k) = E) (fun i => n - (intOf i).toNat)
  case atStart => exact ⟨0, by omega, rfl, HC.out.2.1.symm⟩
  case round =>
    obtain ⟨k, hk, rfl, hk2⟩ := hrel
    by_cases hlt : k < n
    · have hx := HC.out.1 k hlt
      have hs := orL_drop N k (by rw [HC.out.2.2]; exact hlt)
      rw [hk2] at hs
      obtain ⟨x, hxx⟩ : ∃ x, x = N.getD k 0 := ⟨_, rfl⟩
      rw [← hxx] at hx hs
      have HS := Lib.hid (And.intro hs hxx); clear hs hxx hk2
      by_cases h0 : x = 0
      · subst h0
        go_wp2_with fail
        exact ⟨⟨k + 1, by omega, rfl, by have := HS.out.1; simpa using this.symm⟩, by simp [intOf]; omega⟩
      · have hb : (x == 0) = false := by rw [beq_eq_false_iff_ne]; exact h0
        have hb2 : (x != 0) = true := by rw [bne_iff_ne]; exact h0
        have H0 := Lib.hid h0; clear h0
        go_wp2_with fail
        go_ret
        refine ⟨?_, rfl⟩
        have := HS.out.1
        rw [if_pos H0.out] at this
        rw [this]; rfl
    · obtain rfl : k = n := by omega
      have h0 : E = 0 := by rw [← hk2, List.drop_eq_nil_of_le (by rw [HC.out.2.2]; exact Nat.le_refl _)]; rfl
      have HZ := Lib.hid h0; clear h0 hk2
      go_wp2_with fail
      go_ret
      refine ⟨?_, rfl⟩
      rw [HZ.out]; rfl
theorem cmpR_or (x y : Pl.Rf) (i j : Int) : orL [Lib.compareBytes x.m y.m, Lib.compareInt y.t x.t, Lib.compareInt y.n x.n, Lib.compareInt i j] = Pl.cmpR x y i j := by
  rw [orL4]; rfl
/-- What the order's closure reads. -/
def LaterS (B b off n c i j : Nat) (x y : Pl.Rf) (w : World) : Prop :=
  w.cell? ⟨B, 0, none⟩ = some (.slice (some ⟨b, off, none⟩) n c) ∧ w.cell? ⟨b, off + i * 5, none⟩ = some (.string ⟨x.m.toArray⟩) ∧ w.cell? ⟨b, off + i * 5 + 1, none⟩ = some (.int .i64 x.n) ∧ w.cell? ⟨b, off + i * 5 + 2, none⟩ = some (.int .i64 x.t) ∧
  w.cell? ⟨b, off + j * 5, none⟩ = some (.string ⟨y.m.toArray⟩) ∧ w.cell? ⟨b, off + j * 5 + 1, none⟩ = some (.int .i64 y.n) ∧ w.cell? ⟨b, off + j * 5 + 2, none⟩ = some (.int .i64 y.t)
set_option maxRecDepth 100000 in
set_option maxHeartbeats 1000000 in
theorem later1_any (B b off n c i j : Nat) (x y : Pl.Rf) (w : World) (hi : i < n) (hj : j < n) (hn : n ≤ 140737488355328) (hS : LaterS B b off n c i j x y w) :
    Calls Tryz.prog 46 #[.int .i64 i, .int .i64 j, .pointer (some ⟨B, 0, none⟩)] w (fun e w' => e = .returned (.int .i64 (Pl.cmpR x y i j)) ∧ ∃ q os, w' = Go.Sort.grow (w.drewN q) os) := by
  obtain ⟨E, hE⟩ : ∃ E, E = Pl.cmpR x y i j := ⟨_, rfl⟩
  rw [← hE]
  obtain ⟨xm, xn, xt, xnm, xtil⟩ := x
  obtain ⟨ym, yn, yt, ynm, ytil⟩ := y
  rw [← cmpR_or] at hE
  simp only at hE
  obtain ⟨c1, hc1⟩ : ∃ q, q = Lib.compareBytes xm ym := ⟨_, rfl⟩
  obtain ⟨c2, hc2⟩ : ∃ q, q = Lib.compareInt yt xt := ⟨_, rfl⟩
  obtain ⟨c3, hc3⟩ : ∃ q, q = Lib.compareInt yn xn := ⟨_, rfl⟩
  obtain ⟨c4, hc4⟩ : ∃ q, q = Lib.compareInt (i : Int) (j : Int) := ⟨_, rfl⟩
  have f1 := cmpStr_any xm ym
  have f2 := cmpI64_any yt xt
  have f3 := cmpInt_any yn xn
  have f4 := cmpInt_any i j
  rw [← hc1] at f1 hE
  rw [← hc2] at f2 hE
  rw [← hc3] at f3 hE
  rw [← hc4] at f4 hE
  have HE := Lib.hid (And.intro hE (And.intro f1 (And.intro f2 (And.intro f3 f4)))); clear hE f1 f2 f3 f4 hc1 hc2 hc3 hc4
  have i0 : (0 : Int) ≤ (i : Int) := by omega
  have i1 : (i : Int) < (n : Int) := by omega
  have j0 : (0 : Int) ≤ (j : Int) := by omega
  have j1 : (j : Int) < (n : Int) := by omega
  go_enter Tryz.func46, Tryz.ntmps46
  go_wp2_with fail
  unfold LaterS at hS
  simp only at hS
  refine wp_region_held_drew (S := (fun w' => w'.cell? ⟨B, 0, none⟩ = some (.slice (some ⟨b, off, none⟩) n c) ∧ w'.cell? ⟨b, off + i * 5, none⟩ = some (.string ⟨xm.toArray⟩) ∧ w'.cell? ⟨b, off + i * 5 + 1, none⟩ = some (.int .i64 xn) ∧ w'.cell? ⟨b, off + i * 5 + 2, none⟩ = some (.int .i64 xt) ∧ w'.cell? ⟨b, off + j * 5, none⟩ = some (.string ⟨ym.toArray⟩) ∧ w'.cell? ⟨b, off + j * 5 + 1, none⟩ = some (.int .i64 yn) ∧ w'.cell? ⟨b, off + j * 5 + 2, none⟩ = some (.int .i64 yt))) (by kernel_rfl) hS (fun hHeld => ?_)
  refine wpAnyH_take (i := 0) (v := ?_) rfl (by kernel_rfl) (by kernel_rfl) (by kernel_rfl) (fun _ _ _ h => h) (Or.inl ⟨by kernel_rfl, ?_⟩) hHeld ?_
  rotate_left
  · (intro w' hSw; obtain ⟨hS0, hS1, hS2, hS3, hS4, hS5, hS6⟩ := hSw; go_simp; try with_reducible rfl)
  simp only [Act.put, List.setIfInBounds_toArray, List.set_cons_zero, List.set_cons_succ, List.getElem_toArray, List.getElem_cons_succ, List.getElem_cons_zero]
  refine wpAnyH_take (i := 1) (v := ?_) rfl (by kernel_rfl) (by kernel_rfl) (by kernel_rfl) (fun _ _ _ h => h) (Or.inl ⟨by kernel_rfl, ?_⟩) hHeld ?_
  rotate_left
  · (intro w' hSw; obtain ⟨hS0, hS1, hS2, hS3, hS4, hS5, hS6⟩ := hSw; go_simp; try with_reducible rfl)
  simp only [Act.put, List.setIfInBounds_toArray, List.set_cons_zero, List.set_cons_succ, List.getElem_toArray, List.getElem_cons_succ, List.getElem_cons_zero]
  refine wpAnyH_take (i := 2) (v := ?_) rfl (by kernel_rfl) (by kernel_rfl) (by kernel_rfl) (fun _ _ _ h => h) (Or.inl ⟨by kernel_rfl, ?_⟩) hHeld ?_
  rotate_left
  · (intro w' hSw; obtain ⟨hS0, hS1, hS2, hS3, hS4, hS5, hS6⟩ := hSw; go_simp; try with_reducible rfl)
  simp only [Act.put, List.setIfInBounds_toArray, List.set_cons_zero, List.set_cons_succ, List.getElem_toArray, List.getElem_cons_succ, List.getElem_cons_zero]
  refine wpAnyH_take (i := 3) (v := ?_) rfl (by kernel_rfl) (by kernel_rfl) (by kernel_rfl) (fun _ _ _ h => h) (Or.inl ⟨by kernel_rfl, ?_⟩) hHeld ?_
  rotate_left
  · (intro w' hSw; obtain ⟨hS0, hS1, hS2, hS3, hS4, hS5, hS6⟩ := hSw; go_simp; try with_reducible rfl)
  simp only [Act.put, List.setIfInBounds_toArray, List.set_cons_zero, List.set_cons_succ, List.getElem_toArray, List.getElem_cons_succ, List.getElem_cons_zero]
  refine wpAnyH_take (i := 4) (v := ?_) rfl (by kernel_rfl) (by kernel_rfl) (by kernel_rfl) (fun _ _ _ h => h) (Or.inl ⟨by kernel_rfl, ?_⟩) hHeld ?_
  rotate_left
  · (intro w' hSw; obtain ⟨hS0, hS1, hS2, hS3, hS4, hS5, hS6⟩ := hSw; go_simp; try with_reducible rfl)
  simp only [Act.put, List.setIfInBounds_toArray, List.set_cons_zero, List.set_cons_succ, List.getElem_toArray, List.getElem_cons_succ, List.getElem_cons_zero]
  refine wpAnyH_take (i := 5) (v := ?_) rfl (by kernel_rfl) (by kernel_rfl) (by kernel_rfl) (fun _ _ _ h => h) (Or.inl ⟨by kernel_rfl, ?_⟩) hHeld ?_
  rotate_left
  · (intro w' hSw; obtain ⟨hS0, hS1, hS2, hS3, hS4, hS5, hS6⟩ := hSw; go_simp; try with_reducible rfl)
  simp only [Act.put, List.setIfInBounds_toArray, List.set_cons_zero, List.set_cons_succ, List.getElem_toArray, List.getElem_cons_succ, List.getElem_cons_zero]
  refine wpAnyH_take (i := 6) (v := ?_) rfl (by kernel_rfl) (by kernel_rfl) (by kernel_rfl) (fun _ _ _ h => h) (Or.inl ⟨by kernel_rfl, ?_⟩) hHeld ?_
  rotate_left
  · (intro w' hSw; obtain ⟨hS0, hS1, hS2, hS3, hS4, hS5, hS6⟩ := hSw; go_simp; try with_reducible rfl)
  simp only [Act.put, List.setIfInBounds_toArray, List.set_cons_zero, List.set_cons_succ, List.getElem_toArray, List.getElem_cons_succ, List.getElem_cons_zero]
  refine wpAnyH_take (i := 7) (v := ?_) rfl (by kernel_rfl) (by kernel_rfl) (by kernel_rfl) (fun _ _ _ h => h) (Or.inl ⟨by kernel_rfl, ?_⟩) hHeld ?_
  rotate_left
  · (intro w' hSw; obtain ⟨hS0, hS1, hS2, hS3, hS4, hS5, hS6⟩ := hSw; go_simp; try with_reducible rfl)
  simp only [Act.put, List.setIfInBounds_toArray, List.set_cons_zero, List.set_cons_succ, List.getElem_toArray, List.getElem_cons_succ, List.getElem_cons_zero]
  refine wpAnyH_take (i := 8) (v := ?_) rfl (by kernel_rfl) (by kernel_rfl) (by kernel_rfl) (fun _ _ _ h => h) (Or.inl ⟨by kernel_rfl, ?_⟩) hHeld ?_
  rotate_left
  · (intro w' hSw; obtain ⟨hS0, hS1, hS2, hS3, hS4, hS5, hS6⟩ := hSw; go_simp; try with_reducible rfl)
  simp only [Act.put, List.setIfInBounds_toArray, List.set_cons_zero, List.set_cons_succ, List.getElem_toArray, List.getElem_cons_succ, List.getElem_cons_zero]
  refine wpAnyH_take (i := 9) (v := ?_) rfl (by kernel_rfl) (by kernel_rfl) (by kernel_rfl) (fun _ _ _ h => h) (Or.inl ⟨by kernel_rfl, ?_⟩) hHeld ?_
  rotate_left
  · (intro w' hSw; obtain ⟨hS0, hS1, hS2, hS3, hS4, hS5, hS6⟩ := hSw; go_simp; try with_reducible rfl)
  simp only [Act.put, List.setIfInBounds_toArray, List.set_cons_zero, List.set_cons_succ, List.getElem_toArray, List.getElem_cons_succ, List.getElem_cons_zero]
  refine wpAnyH_take (i := 11) (v := ?_) rfl (by kernel_rfl) (by kernel_rfl) (by kernel_rfl) (fun _ _ _ h => h) (Or.inl ⟨by kernel_rfl, ?_⟩) hHeld ?_
  rotate_left
  · (intro w' hSw; obtain ⟨hS0, hS1, hS2, hS3, hS4, hS5, hS6⟩ := hSw; go_simp; try with_reducible rfl)
  simp only [Act.put, List.setIfInBounds_toArray, List.set_cons_zero, List.set_cons_succ, List.getElem_toArray, List.getElem_cons_succ, List.getElem_cons_zero]
  refine wpAnyH_take (i := 12) (v := ?_) rfl (by kernel_rfl) (by kernel_rfl) (by kernel_rfl) (fun _ _ _ h => h) (Or.inl ⟨by kernel_rfl, ?_⟩) hHeld ?_
  rotate_left
  · (intro w' hSw; obtain ⟨hS0, hS1, hS2, hS3, hS4, hS5, hS6⟩ := hSw; go_simp; try with_reducible rfl)
  simp only [Act.put, List.setIfInBounds_toArray, List.set_cons_zero, List.set_cons_succ, List.getElem_toArray, List.getElem_cons_succ, List.getElem_cons_zero]
  refine wpAnyH_take (i := 13) (v := ?_) rfl (by kernel_rfl) (by kernel_rfl) (by kernel_rfl) (fun _ _ _ h => h) (Or.inl ⟨by kernel_rfl, ?_⟩) hHeld ?_
  rotate_left
  · (intro w' hSw; obtain ⟨hS0, hS1, hS2, hS3, hS4, hS5, hS6⟩ := hSw; go_simp; try with_reducible rfl)
  simp only [Act.put, List.setIfInBounds_toArray, List.set_cons_zero, List.set_cons_succ, List.getElem_toArray, List.getElem_cons_succ, List.getElem_cons_zero]
  refine wpAnyH_take (i := 14) (v := ?_) rfl (by kernel_rfl) (by kernel_rfl) (by kernel_rfl) (fun _ _ _ h => h) (Or.inl ⟨by kernel_rfl, ?_⟩) hHeld ?_
  rotate_left
  · (intro w' hSw; obtain ⟨hS0, hS1, hS2, hS3, hS4, hS5, hS6⟩ := hSw; go_simp; try with_reducible rfl)
  simp only [Act.put, List.setIfInBounds_toArray, List.set_cons_zero, List.set_cons_succ, List.getElem_toArray, List.getElem_cons_succ, List.getElem_cons_zero]
  refine wpAnyH_take (i := 15) (v := ?_) rfl (by kernel_rfl) (by kernel_rfl) (by kernel_rfl) (fun _ _ _ h => h) (Or.inl ⟨by kernel_rfl, ?_⟩) hHeld ?_
  rotate_left
  · (intro w' hSw; obtain ⟨hS0, hS1, hS2, hS3, hS4, hS5, hS6⟩ := hSw; go_simp; try with_reducible rfl)
  simp only [Act.put, List.setIfInBounds_toArray, List.set_cons_zero, List.set_cons_succ, List.getElem_toArray, List.getElem_cons_succ, List.getElem_cons_zero]
  refine wpAnyH_take (i := 16) (v := ?_) rfl (by kernel_rfl) (by kernel_rfl) (by kernel_rfl) (fun _ _ _ h => h) (Or.inl ⟨by kernel_rfl, ?_⟩) hHeld ?_
  rotate_left
  · (intro w' hSw; obtain ⟨hS0, hS1, hS2, hS3, hS4, hS5, hS6⟩ := hSw; go_simp; try with_reducible rfl)
  simp only [Act.put, List.setIfInBounds_toArray, List.set_cons_zero, List.set_cons_succ, List.getElem_toArray, List.getElem_cons_succ, List.getElem_cons_zero]
  refine wpAnyH_take (i := 17) (v := ?_) rfl (by kernel_rfl) (by kernel_rfl) (by kernel_rfl) (fun _ _ _ h => h) (Or.inl ⟨by kernel_rfl, ?_⟩) hHeld ?_
  rotate_left
  · (intro w' hSw; obtain ⟨hS0, hS1, hS2, hS3, hS4, hS5, hS6⟩ := hSw; go_simp; try with_reducible rfl)
  simp only [Act.put, List.setIfInBounds_toArray, List.set_cons_zero, List.set_cons_succ, List.getElem_toArray, List.getElem_cons_succ, List.getElem_cons_zero]
  refine wpAnyH_take (i := 18) (v := ?_) rfl (by kernel_rfl) (by kernel_rfl) (by kernel_rfl) (fun _ _ _ h => h) (Or.inl ⟨by kernel_rfl, ?_⟩) hHeld ?_
  rotate_left
  · (intro w' hSw; obtain ⟨hS0, hS1, hS2, hS3, hS4, hS5, hS6⟩ := hSw; go_simp; try with_reducible rfl)
  simp only [Act.put, List.setIfInBounds_toArray, List.set_cons_zero, List.set_cons_succ, List.getElem_toArray, List.getElem_cons_succ, List.getElem_cons_zero]
  refine wpAnyH_take (i := 19) (v := ?_) rfl (by kernel_rfl) (by kernel_rfl) (by kernel_rfl) (fun _ _ _ h => h) (Or.inl ⟨by kernel_rfl, ?_⟩) hHeld ?_
  rotate_left
  · (intro w' hSw; obtain ⟨hS0, hS1, hS2, hS3, hS4, hS5, hS6⟩ := hSw; go_simp; try with_reducible rfl)
  simp only [Act.put, List.setIfInBounds_toArray, List.set_cons_zero, List.set_cons_succ, List.getElem_toArray, List.getElem_cons_succ, List.getElem_cons_zero]
  refine wpAnyH_take (i := 20) (v := ?_) rfl (by kernel_rfl) (by kernel_rfl) (by kernel_rfl) (fun _ _ _ h => h) (Or.inl ⟨by kernel_rfl, ?_⟩) hHeld ?_
  rotate_left
  · (intro w' hSw; obtain ⟨hS0, hS1, hS2, hS3, hS4, hS5, hS6⟩ := hSw; go_simp; try with_reducible rfl)
  simp only [Act.put, List.setIfInBounds_toArray, List.set_cons_zero, List.set_cons_succ, List.getElem_toArray, List.getElem_cons_succ, List.getElem_cons_zero]
  refine wpAnyH_take (i := 22) (v := ?_) rfl (by kernel_rfl) (by kernel_rfl) (by kernel_rfl) (fun _ _ _ h => h) (Or.inl ⟨by kernel_rfl, ?_⟩) hHeld ?_
  rotate_left
  · (intro w' hSw; obtain ⟨hS0, hS1, hS2, hS3, hS4, hS5, hS6⟩ := hSw; go_simp; try with_reducible rfl)
  simp only [Act.put, List.setIfInBounds_toArray, List.set_cons_zero, List.set_cons_succ, List.getElem_toArray, List.getElem_cons_succ, List.getElem_cons_zero]
  refine wpAnyH_take (i := 23) (v := ?_) rfl (by kernel_rfl) (by kernel_rfl) (by kernel_rfl) (fun _ _ _ h => h) (Or.inl ⟨by kernel_rfl, ?_⟩) hHeld ?_
  rotate_left
  · (intro w' hSw; obtain ⟨hS0, hS1, hS2, hS3, hS4, hS5, hS6⟩ := hSw; go_simp; try with_reducible rfl)
  simp only [Act.put, List.setIfInBounds_toArray, List.set_cons_zero, List.set_cons_succ, List.getElem_toArray, List.getElem_cons_succ, List.getElem_cons_zero]
  refine wpAnyH_take (i := 24) (v := ?_) rfl (by kernel_rfl) (by kernel_rfl) (by kernel_rfl) (fun _ _ _ h => h) (Or.inl ⟨by kernel_rfl, ?_⟩) hHeld ?_
  rotate_left
  · (intro w' hSw; obtain ⟨hS0, hS1, hS2, hS3, hS4, hS5, hS6⟩ := hSw; go_simp; try with_reducible rfl)
  simp only [Act.put, List.setIfInBounds_toArray, List.set_cons_zero, List.set_cons_succ, List.getElem_toArray, List.getElem_cons_succ, List.getElem_cons_zero]
  refine wpAnyH_take (i := 25) (v := ?_) rfl (by kernel_rfl) (by kernel_rfl) (by kernel_rfl) (fun _ _ _ h => h) (Or.inl ⟨by kernel_rfl, ?_⟩) hHeld ?_
  rotate_left
  · (intro w' hSw; obtain ⟨hS0, hS1, hS2, hS3, hS4, hS5, hS6⟩ := hSw; go_simp; try with_reducible rfl)
  simp only [Act.put, List.setIfInBounds_toArray, List.set_cons_zero, List.set_cons_succ, List.getElem_toArray, List.getElem_cons_succ, List.getElem_cons_zero]
  refine wpAnyH_take (i := 26) (v := ?_) rfl (by kernel_rfl) (by kernel_rfl) (by kernel_rfl) (fun _ _ _ h => h) (Or.inl ⟨by kernel_rfl, ?_⟩) hHeld ?_
  rotate_left
  · (intro w' hSw; obtain ⟨hS0, hS1, hS2, hS3, hS4, hS5, hS6⟩ := hSw; go_simp; try with_reducible rfl)
  simp only [Act.put, List.setIfInBounds_toArray, List.set_cons_zero, List.set_cons_succ, List.getElem_toArray, List.getElem_cons_succ, List.getElem_cons_zero]
  refine wpAnyH_take (i := 27) (v := ?_) rfl (by kernel_rfl) (by kernel_rfl) (by kernel_rfl) (fun _ _ _ h => h) (Or.inl ⟨by kernel_rfl, ?_⟩) hHeld ?_
  rotate_left
  · (intro w' hSw; obtain ⟨hS0, hS1, hS2, hS3, hS4, hS5, hS6⟩ := hSw; go_simp; try with_reducible rfl)
  simp only [Act.put, List.setIfInBounds_toArray, List.set_cons_zero, List.set_cons_succ, List.getElem_toArray, List.getElem_cons_succ, List.getElem_cons_zero]
  refine wpAnyH_take (i := 28) (v := ?_) rfl (by kernel_rfl) (by kernel_rfl) (by kernel_rfl) (fun _ _ _ h => h) (Or.inl ⟨by kernel_rfl, ?_⟩) hHeld ?_
  rotate_left
  · (intro w' hSw; obtain ⟨hS0, hS1, hS2, hS3, hS4, hS5, hS6⟩ := hSw; go_simp; try with_reducible rfl)
  simp only [Act.put, List.setIfInBounds_toArray, List.set_cons_zero, List.set_cons_succ, List.getElem_toArray, List.getElem_cons_succ, List.getElem_cons_zero]
  refine wpAnyH_take (i := 29) (v := ?_) rfl (by kernel_rfl) (by kernel_rfl) (by kernel_rfl) (fun _ _ _ h => h) (Or.inl ⟨by kernel_rfl, ?_⟩) hHeld ?_
  rotate_left
  · (intro w' hSw; obtain ⟨hS0, hS1, hS2, hS3, hS4, hS5, hS6⟩ := hSw; go_simp; try with_reducible rfl)
  simp only [Act.put, List.setIfInBounds_toArray, List.set_cons_zero, List.set_cons_succ, List.getElem_toArray, List.getElem_cons_succ, List.getElem_cons_zero]
  refine wpAnyH_take (i := 30) (v := ?_) rfl (by kernel_rfl) (by kernel_rfl) (by kernel_rfl) (fun _ _ _ h => h) (Or.inl ⟨by kernel_rfl, ?_⟩) hHeld ?_
  rotate_left
  · (intro w' hSw; obtain ⟨hS0, hS1, hS2, hS3, hS4, hS5, hS6⟩ := hSw; go_simp; try with_reducible rfl)
  simp only [Act.put, List.setIfInBounds_toArray, List.set_cons_zero, List.set_cons_succ, List.getElem_toArray, List.getElem_cons_succ, List.getElem_cons_zero]
  refine wpAnyH_take (i := 31) (v := ?_) rfl (by kernel_rfl) (by kernel_rfl) (by kernel_rfl) (fun _ _ _ h => h) (Or.inl ⟨by kernel_rfl, ?_⟩) hHeld ?_
  rotate_left
  · (intro w' hSw; obtain ⟨hS0, hS1, hS2, hS3, hS4, hS5, hS6⟩ := hSw; go_simp; try with_reducible rfl)
  simp only [Act.put, List.setIfInBounds_toArray, List.set_cons_zero, List.set_cons_succ, List.getElem_toArray, List.getElem_cons_succ, List.getElem_cons_zero]
  refine wpAnyH_take (i := 33) (v := ?_) rfl (by kernel_rfl) (by kernel_rfl) (by kernel_rfl) (fun _ _ _ h => h) (Or.inl ⟨by kernel_rfl, ?_⟩) hHeld ?_
  rotate_left
  · (intro w' hSw; obtain ⟨hS0, hS1, hS2, hS3, hS4, hS5, hS6⟩ := hSw; go_simp; try with_reducible rfl)
  simp only [Act.put, List.setIfInBounds_toArray, List.set_cons_zero, List.set_cons_succ, List.getElem_toArray, List.getElem_cons_succ, List.getElem_cons_zero]
  refine wpAnyH_take (i := 34) (v := ?_) rfl (by kernel_rfl) (by kernel_rfl) (by kernel_rfl) (fun _ _ _ h => h) (Or.inl ⟨by kernel_rfl, ?_⟩) hHeld ?_
  rotate_left
  · (intro w' hSw; obtain ⟨hS0, hS1, hS2, hS3, hS4, hS5, hS6⟩ := hSw; go_simp; try with_reducible rfl)
  simp only [Act.put, List.setIfInBounds_toArray, List.set_cons_zero, List.set_cons_succ, List.getElem_toArray, List.getElem_cons_succ, List.getElem_cons_zero]
  refine wpAnyH_ready (rs := [10]) (by kernel_rfl) (by simp) (AllReadyH.cons rfl (fun K hK => ?_) AllReadyH.nil)
  go_simp
  refine (HE.out.2.1 _).mono ?_
  rintro e w1 ⟨rfl, rfl⟩
  refine hK.out _ _ hHeld (fun hHeld => ?_)
  clear hK K
  (try simp only [Act.put, List.setIfInBounds_toArray, List.set_cons_zero, List.set_cons_succ, List.getElem_toArray, List.getElem_cons_succ, List.getElem_cons_zero])
  refine wpAnyH_ready (rs := [21]) (by kernel_rfl) (by simp) (AllReadyH.cons rfl (fun K hK => ?_) AllReadyH.nil)
  go_simp
  refine (HE.out.2.2.1 _).mono ?_
  rintro e w1 ⟨rfl, rfl⟩
  refine hK.out _ _ hHeld (fun hHeld => ?_)
  clear hK K
  (try simp only [Act.put, List.setIfInBounds_toArray, List.set_cons_zero, List.set_cons_succ, List.getElem_toArray, List.getElem_cons_succ, List.getElem_cons_zero])
  refine wpAnyH_ready (rs := [32]) (by kernel_rfl) (by simp) (AllReadyH.cons rfl (fun K hK => ?_) AllReadyH.nil)
  go_simp
  refine (HE.out.2.2.2.1 _).mono ?_
  rintro e w1 ⟨rfl, rfl⟩
  refine hK.out _ _ hHeld (fun hHeld => ?_)
  clear hK K
  (try simp only [Act.put, List.setIfInBounds_toArray, List.set_cons_zero, List.set_cons_succ, List.getElem_toArray, List.getElem_cons_succ, List.getElem_cons_zero])
  refine wpAnyH_ready (rs := [35]) (by kernel_rfl) (by simp) (AllReadyH.cons rfl (fun K hK => ?_) AllReadyH.nil)
  go_simp
  refine (HE.out.2.2.2.2 _).mono ?_
  rintro e w1 ⟨rfl, rfl⟩
  refine hK.out _ _ hHeld (fun hHeld => ?_)
  clear hK K
  (try simp only [Act.put, List.setIfInBounds_toArray, List.set_cons_zero, List.set_cons_succ, List.getElem_toArray, List.getElem_cons_succ, List.getElem_cons_zero])
  refine wpAnyH_ready (rs := [36]) (by kernel_rfl) (by simp) (AllReadyH.cons rfl (fun K hK => ?_) AllReadyH.nil)
  go_simp
  obtain ⟨s0, s1, s2, s3, s4, s5, s6⟩ := hS
  refine hK.out _ _ ⟨Lib.cell?_alloc_some _ s0, Lib.cell?_alloc_some _ s1, Lib.cell?_alloc_some _ s2, Lib.cell?_alloc_some _ s3, Lib.cell?_alloc_some _ s4, Lib.cell?_alloc_some _ s5, Lib.cell?_alloc_some _ s6⟩ (fun hHeld => ?_)
  clear hK K
  (try simp only [Act.put, List.setIfInBounds_toArray, List.set_cons_zero, List.set_cons_succ, List.getElem_toArray, List.getElem_cons_succ, List.getElem_cons_zero])
  have hor := or_any w.heap.size [c1, c2, c3, c4] 4 rfl (by omega)
  refine wpAnyH_ready (rs := [37]) (by kernel_rfl) (by simp) (AllReadyH.cons rfl (fun K hK => ?_) AllReadyH.nil)
  go_simp
  refine (hor _ ?_).mono ?_
  · intro k hk
    refine (cell_row (w.alloc (.cells #[.int .i64 c1, .int .i64 c2, .int .i64 c3, .int .i64 c4] 3)) _ k _ _ (heap_alloc_new w _)).trans ?_
    match k, hk with
    | 0, _ => rfl
    | 1, _ => rfl
    | 2, _ => rfl
    | 3, _ => rfl
  rintro e w1 ⟨rfl, rfl⟩
  clear hor
  refine hK.out _ _ ⟨Lib.cell?_alloc_some _ s0, Lib.cell?_alloc_some _ s1, Lib.cell?_alloc_some _ s2, Lib.cell?_alloc_some _ s3, Lib.cell?_alloc_some _ s4, Lib.cell?_alloc_some _ s5, Lib.cell?_alloc_some _ s6⟩ (fun hHeld => ?_)
  clear hK K
  (try simp only [Act.put, List.setIfInBounds_toArray, List.set_cons_zero, List.set_cons_succ, List.getElem_toArray, List.getElem_cons_succ, List.getElem_cons_zero])
  refine wpAnyH_take (i := 38) (v := ?_) rfl (by kernel_rfl) (by kernel_rfl) (by kernel_rfl) (fun _ _ _ h => h) (Or.inl ⟨by kernel_rfl, ?_⟩) hHeld ?_
  rotate_left
  · (intro w' hSw; obtain ⟨hS0, hS1, hS2, hS3, hS4, hS5, hS6⟩ := hSw; go_simp; try with_reducible rfl)
  simp only [Act.put, List.setIfInBounds_toArray, List.set_cons_zero, List.set_cons_succ, List.getElem_toArray, List.getElem_cons_succ, List.getElem_cons_zero]
  refine wpAnyH_done (by kernel_rfl) ?_ _
  go_wp2_with fail
  go_ret
  refine ⟨by rw [HE.out.1]; rfl, 1, #[.cells #[.int .i64 c1, .int .i64 c2, .int .i64 c3, .int .i64 c4] 3], ?_⟩
  rw [← Go.Sort.alloc_eq_grow]
  rfl
end Go.Proofs.YtmncgnmgdkdhaaaGreatDoor
