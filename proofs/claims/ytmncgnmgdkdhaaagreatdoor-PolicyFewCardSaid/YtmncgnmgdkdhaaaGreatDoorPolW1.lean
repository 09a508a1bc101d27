/- The walks of policy.numbers, policy.Check and the document's Check. -/
import Derived.Test.YtmncgnmgdkdhaaaGreatDoorPolMem
import Derived.LoopTactic
import Derived.Deep.Cut
namespace Go.Proofs.YtmncgnmgdkdhaaaGreatDoor
open Go.RowKit
set_option linter.unusedVariables false
set_option linter.unusedSimpArgs false
set_option maxRecDepth 100000 in
theorem numbers_any (p : Pl.Pol) (w : World) : Calls Tryz.prog 24 #[polV p] w (RetB (fun v _ => v = .agg #[.int .i64 p.d, .int .i64 p.w, .int .i64 p.mo, .int .i64 p.y]) w) := by
  obtain ⟨d, W, mo, y⟩ := p
  show Calls Tryz.prog 24 #[.agg #[.int .i64 d, .int .i64 W, .int .i64 mo, .int .i64 y]] w (RetB (fun v _ => v = .agg #[.int .i64 d, .int .i64 W, .int .i64 mo, .int .i64 y]) w)
  go_enter Tryz.func24, Tryz.ntmps24
  go_wp2_with fail
  refine bodyPost_ret (v := .agg #[.int .i64 d, .int .i64 W, .int .i64 mo, .int .i64 y]) (by simp [results, Tryz.results24, go_sem]) rfl ⟨_, rfl, rfl, ?_⟩
  repeat' (first | exact Below.refl _ _ | (refine Below.alloc ?_ (by simp) _) | (refine Below.setCell ?_ (by simp) _))
/-- A row of ints read at an index. -/
theorem index_ints4 (L : List Int) (k : Nat) (h4 : L.length = 4) (hk : k < 4) (w : World) : (Instr.index 55 (.agg (L.map (Value.int .i64)).toArray) (.int .i64 (k : Int))).run Tryz.prog w = .ok (.int .i64 (L.getD k 0)) w := by
  have h2 : L[k]? = some (L.getD k 0) := by rw [List.getD_eq_getElem?_getD, List.getElem?_eq_getElem (by omega)]; rfl
  obtain ⟨x, hx⟩ : ∃ x, L.getD k 0 = x := ⟨_, rfl⟩
  rw [hx] at h2 ⊢
  clear hx
  simp only [Instr.index, asIntOf, Sem.run_bind, Sem.run_pure, Result.andThen_ok, run_underlying Tryz.underlying55]
  rw [if_pos (by omega)]
  simp [part, Sem.run_bind, Tryz.sizeOf3, Tryz.isAgg3, h2]
theorem nums_val (p : Pl.Pol) : Value.agg #[.int .i64 p.d, .int .i64 p.w, .int .i64 p.mo, .int .i64 p.y] = .agg (p.nums.map (Value.int .i64)).toArray := rfl
theorem any_take_succ (L : List Int) (f : Int → Bool) (k : Nat) (hk : k < L.length) : (L.take (k + 1)).any f = ((L.take k).any f || f (L.getD k 0)) := by
  rw [List.take_succ_eq_append_getElem hk, List.any_append]
  rw [List.getD_eq_getElem?_getD, List.getElem?_eq_getElem hk]; simp
theorem all_take_succ (L : List Int) (f : Int → Bool) (k : Nat) (hk : k < L.length) : (L.take (k + 1)).all f = ((L.take k).all f && f (L.getD k 0)) := by
  rw [List.take_succ_eq_append_getElem hk, List.all_append]
  rw [List.getD_eq_getElem?_getD, List.getElem?_eq_getElem hk]; simp
theorem all_bad (L : List Int) (f : Int → Bool) (k : Nat) (hk : k < L.length) (h : f (L.getD k 0) = false) : L.all f = false := by
  rw [List.all_eq_false]
  refine ⟨L.getD k 0, ?_, by rw [h]; simp⟩
  rw [List.getD_eq_getElem?_getD, List.getElem?_eq_getElem hk]; exact List.getElem_mem hk
def inR (n : Int) : Bool := decide (0 ≤ n ∧ n ≤ 1000)
def ChkR (N : List Int) (w : World) (s i : Value) (wr : World) : Prop := ∃ k : Nat, k ≤ 4 ∧ i = .int .i64 k ∧ s = .bool ((N.take k).any fun n => decide (0 < n)) ∧ (N.take k).all inR = true ∧ Below w.heap.size w wr
theorem chkR_go {N : List Int} {w wr : World} {k : Nat} {x : Int} {b : Bool} (h4 : N.length = 4) (hk : k < 4) (hx : N.getD k 0 = x) (h0 : 0 ≤ x) (h1 : x ≤ 1000) (ha : (N.take k).all inR = true) (hb : Below w.heap.size w wr) (e : ((N.take k).any (fun n => decide (0 < n)) || decide (0 < x)) = b) : ChkR N w (.bool b) (.int .i64 ((k : Int) + 1)) wr := by
  refine ⟨k + 1, by omega, rfl, ?_, ?_, hb⟩
  · rw [any_take_succ _ _ _ (by omega), hx, ← e]
  · rw [all_take_succ _ _ _ (by omega), hx, ha]; simp [inR, h0, h1]
set_option maxRecDepth 100000 in
theorem pcheck_any (p : Pl.Pol) (w : World) : Calls Tryz.prog 15 #[polV p] w (RetB (fun v _ => v = .int .i64 (Pl.polE p : Int)) w) := by
  obtain ⟨E, hE⟩ : ∃ E, E = Pl.polE p := ⟨_, rfl⟩
  rw [← hE]
  obtain ⟨N, hN⟩ : ∃ N, N = p.nums := ⟨_, rfl⟩
  have h4 : N.length = 4 := by rw [hN]; rfl
  have hnum := numbers_any p
  rw [nums_val, ← hN] at hnum
  have hEE : E = if N.all inR = false then 2 else if N.any (fun n => decide (0 < n)) = false then 1 else 0 := by rw [hE, hN]; rfl
  obtain ⟨P, hP⟩ : ∃ P, P = polV p := ⟨_, rfl⟩
  obtain ⟨d, W, mo, y⟩ := p
  have hP2 : polV ⟨d, W, mo, y⟩ = .agg #[.int .i64 d, .int .i64 W, .int .i64 mo, .int .i64 y] := rfl
  rw [hP2] at hnum ⊢
  have HH := Lib.hid (And.intro hnum (And.intro hEE h4)); clear hnum hEE hN hE hP hP2 h4
  go_enter Tryz.func15, Tryz.ntmps15
  go_wp2_with fail
  refine (HH.out.1 _).mono ?_
  rintro e w1 ⟨v, rfl, rfl, hb1⟩
  have hb2 := ((Below.refl w.heap.size w).alloc (Nat.le_refl _) (.cells #[.int .i64 d, .int .i64 W, .int .i64 mo, .int .i64 y] 23)).trans (hb1.mono (by simp))
  clear hb1
  go_wp2_with fail
  go_loopw [3, 8] (ChkR N w) (fun _ i _ => 4 - (intOf i).toNat)
  case atStart => exact ⟨0, by omega, rfl, by simp, by simp, hb2⟩
  case round =>
    obtain ⟨k, hk, rfl, rfl, hall, hbr⟩ := hrel
    have h4 := HH.out.2.2
    by_cases hk4 : k < 4
    · have hx := fun w => index_ints4 N k h4 hk4 w
      obtain ⟨x, hxx⟩ : ∃ x, x = N.getD k 0 := ⟨_, rfl⟩
      rw [← hxx] at hx
      obtain ⟨B, hB⟩ : ∃ B, B = (N.take k).any fun n => decide (0 < n) := ⟨_, rfl⟩
      rw [← hB]
      have hbad := fun (h : inR x = false) => all_bad N inR k (by omega) (by rw [← hxx]; exact h)
      have hgo := fun h0 h1 b e => chkR_go (b := b) h4 hk4 hxx.symm h0 h1 hall hbr (by rw [← hB]; exact e)
      have HX := Lib.hid (And.intro hbad (And.intro hgo hxx)); clear hbad hgo hxx hB hall h4
      cases B <;> go_wp2_with fail
      all_goals first
        | (go_ret
           refine ⟨_, rfl, ?_, hbr⟩
           have hb : inR x = false := by unfold inR; rw [decide_eq_false (by omega)]
           have := HH.out.2.1
           rw [HX.out.1 hb] at this
           rw [this]; rfl)
        | exact ⟨HX.out.2.1 (by omega) (by omega) _ (by simp), by simp [intOf]; omega⟩
    · obtain rfl : k = 4 := by omega
      have hN4 : N.take 4 = N := List.take_of_length_le (by omega)
      rw [hN4] at hall ⊢
      have hEE := HH.out.2.1
      rw [hall] at hEE
      obtain ⟨B, hB⟩ : ∃ B, B = N.any fun n => decide (0 < n) := ⟨_, rfl⟩
      rw [← hB] at hEE ⊢
      clear hB hN4 h4
      have HE := Lib.hid hEE; clear hEE hall
      cases B <;> go_wp2_with fail
      all_goals
        go_ret
        refine ⟨_, rfl, ?_, hbr⟩
        rw [HE.out]; rfl
def SumR (N : List Int) (w : World) (H : Nat) (i : Value) (wr : World) : Prop := ∃ k : Nat, k ≤ 4 ∧ i = .int .i64 k ∧ (N.take k).all inR = true ∧ Below H w wr
theorem polE_sum (d W mo y : Int) (h : ([d, W, mo, y] : List Int).all inR = true) : 0 ≤ d ∧ d ≤ 1000 ∧ 0 ≤ W ∧ W ≤ 1000 ∧ 0 ≤ mo ∧ mo ≤ 1000 ∧ 0 ≤ y ∧ y ≤ 1000 ∧ (d + W + mo + y = 0 ↔ ([d, W, mo, y] : List Int).any (fun n => decide (0 < n)) = false) := by
  simp [inR] at h
  refine ⟨h.1.1, h.1.2, h.2.1.1, h.2.1.2, h.2.2.1.1, h.2.2.1.2, h.2.2.2.1, h.2.2.2.2, ?_⟩
  simp
  omega
set_option maxRecDepth 100000 in
theorem rpcheck_any (p : Pl.Pol) (w : World) : Calls Tryz.prog 27 #[polV p] w (RetB (fun v _ => v = .int .i64 (Pl.polE p : Int)) w) := by
  obtain ⟨E, hE⟩ : ∃ E, E = Pl.polE p := ⟨_, rfl⟩
  rw [← hE]
  obtain ⟨d, W, mo, y⟩ := p
  have hEE : E = if ([d, W, mo, y] : List Int).all inR = false then 2 else if ([d, W, mo, y] : List Int).any (fun n => decide (0 < n)) = false then 1 else 0 := by rw [hE]; rfl
  have HH := Lib.hid hEE; clear hEE hE
  show Calls Tryz.prog 27 #[.agg #[.int .i64 d, .int .i64 W, .int .i64 mo, .int .i64 y]] w _
  go_enter Tryz.func27, Tryz.ntmps27
  go_wp2_with fail
  obtain ⟨V, hV⟩ : ∃ V, (w.alloc (.cells #[.int .i64 d, .int .i64 W, .int .i64 mo, .int .i64 y] 23)).alloc (.cells #[.int .i64 d, .int .i64 W, .int .i64 mo, .int .i64 y] 3) = V := ⟨_, rfl⟩
  have g0 : V.heap[w.heap.size]? = some (.cells #[.int .i64 d, .int .i64 W, .int .i64 mo, .int .i64 y] 23 (0, 0)) := by rw [← hV]; exact (Below.heap_alloc _ _ _ (by simp)).trans (heap_alloc_new w _)
  have g1 : V.heap[w.heap.size + 1]? = some (.cells #[.int .i64 d, .int .i64 W, .int .i64 mo, .int .i64 y] 3 (0, 0)) := by rw [← hV]; exact heap_alloc_2 w _ _
  have hbV : Below w.heap.size w V := by rw [← hV]; exact ((Below.refl _ _).alloc (Nat.le_refl _) _).alloc (by simp) _
  rw [hV]
  obtain ⟨N, hN⟩ : ∃ N : List Int, N = [d, W, mo, y] := ⟨_, rfl⟩
  have h4 : N.length = 4 := by rw [hN]; rfl
  have hc : ∀ k, k < 4 → V.cell? ⟨w.heap.size + 1, k, none⟩ = some (.int .i64 (N.getD k 0)) := by
    intro k hk
    rw [hN, cell_row V _ k _ _ g1]
    match k, hk with
    | 0, _ => rfl
    | 1, _ => rfl
    | 2, _ => rfl
    | 3, _ => rfl
  have c0 := cell_row V _ 0 _ _ g0
  have c1 := cell_row V _ 1 _ _ g0
  have c2 := cell_row V _ 2 _ _ g0
  have c3 := cell_row V _ 3 _ _ g0
  simp at c0 c1 c2 c3
  have HV := Lib.hid (And.intro c0 (And.intro c1 (And.intro c2 (And.intro c3 (And.intro hc (And.intro h4 hN)))))); clear c0 c1 c2 c3 hc hN h4 hV g0 g1
  go_loop [15] (fun i => ∃ k : Nat, k ≤ 4 ∧ i = .int .i64 k ∧ (N.take k).all inR = true) (fun i => 4 - (intOf i).toNat)
  case atStart => exact ⟨0, by omega, rfl, by simp⟩
  case round =>
    obtain ⟨k, hk, rfl, hall⟩ := hrel
    obtain ⟨-, -, -, -, hc, h4, hN⟩ := HV.out
    by_cases hk4 : k < 4
    · have hx := hc k hk4
      obtain ⟨x, hxx⟩ : ∃ x, x = N.getD k 0 := ⟨_, rfl⟩
      rw [← hxx] at hx
      have hbad := fun (h : inR x = false) => all_bad N inR k (by omega) (by rw [← hxx]; exact h)
      have hgo : inR x = true → (N.take (k + 1)).all inR = true := fun h => by rw [all_take_succ _ _ _ (by omega), ← hxx, hall, h]; rfl
      have HX := Lib.hid (And.intro hbad (And.intro hgo hxx)); clear hbad hgo hxx hall h4 hN hc
      go_wp2_with fail
      all_goals first
        | (go_ret
           refine ⟨_, rfl, ?_, hbV⟩
           have hb : inR x = false := by unfold inR; rw [decide_eq_false (by omega)]
           have := HH.out
           rw [← HV.out.2.2.2.2.2.2, HX.out.1 hb] at this
           rw [this]; rfl)
        | exact ⟨⟨k + 1, by omega, rfl, HX.out.2.1 (by unfold inR; exact decide_eq_true (by omega))⟩, by simp [intOf]; omega⟩
    · obtain rfl : k = 4 := by omega
      have hN4 : N.take 4 = N := List.take_of_length_le (by omega)
      rw [hN4, hN] at hall
      obtain ⟨b1, b2, b3, b4, b5, b6, b7, b8, hs⟩ := polE_sum d W mo y hall
      obtain ⟨c0, c1, c2, c3, -, -, -⟩ := HV.out
      have HS := Lib.hid (And.intro hs hall); clear hs hall hN hN4 h4 hc
      by_cases hz : d + W + mo + y = 0
      · have hz2 : (d + W + mo + y == 0) = true := by rw [beq_iff_eq]; exact hz
        have HZ := Lib.hid hz; clear hz
        go_wp2_with fail
        all_goals
          go_ret
          refine ⟨_, rfl, ?_, hbV⟩
          have := HH.out
          rw [HS.out.2, HS.out.1.1 HZ.out] at this
          rw [this]; rfl
      · have hz2 : (d + W + mo + y == 0) = false := by rw [beq_eq_false_iff_ne]; exact hz
        have HZ := Lib.hid hz; clear hz
        go_wp2_with fail
        all_goals
          go_ret
          refine ⟨_, rfl, ?_, hbV⟩
          have := HH.out
          rw [HS.out.2] at this
          cases hq : ([d, W, mo, y] : List Int).any (fun n => decide (0 < n))
          · exact absurd (HS.out.1.2 hq) HZ.out
          · rw [hq] at this
            rw [this]; rfl
end Go.Proofs.YtmncgnmgdkdhaaaGreatDoor
