/- The walk of the reference's Of. -/
import Derived.Test.YtplhmhclcfclhaaOfW3
import Derived.Deep.AppendLies
namespace Go.Proofs.Ytplhmhclcfclhaa
open Go.RowKit
set_option linter.unusedVariables false
set_option linter.unusedSimpArgs false
attribute [local go_sem] ba_get ba_cut ba_add

theorem of_any (b : List UInt8) (w : World) (hb : b.length ≤ 140737488355328) : Calls Try.prog 33 #[.string ⟨b.toArray⟩] w (RetB (OfOut b) w) := by
  by_cases h1 : Pl.headBad b = true ∨ b.length < 14 ∨ b.length ≠ 14 + 4 * Pl.fieldN b 8 2 + Pl.fieldN b 10 2
  · exact of_bad b w hb h1
  · have h2 : Pl.headBad b = false := by
      cases h : Pl.headBad b
      · rfl
      · exact absurd (.inl h) h1
    exact of_good b w hb h2 (by omega) (by omega)

/-- append of one element, of one cell, at a step of a region that draws its order. -/
theorem step_push {P : Program} {ops : Array Oper} {o : Oper} {a : Act} {K : Act → World → Prop} {Q : Exit → Act → World → Prop} {E : Prop} (hgd : o.guard = none) (s x : Operand) (t : TypeId)
    (ho : o.op = .call { callee := .builtin .append, args := #[s, x], argTypes := #[t, t] })
    (base : Nat) (e : TypeId) (z : Value) (bytes : Nat) (ht : P.underlying t = some (.slice e)) (hi : (P.info? e).map (fun i => (i.zero, i.size, i.bytes)) = some (some z, 1, bytes)) (hzs : z.cells.size = 1)
    (w : World) (v : Value) (n : Nat) (xs : List Value) (y : Value) (H : Nat) (hs : a.eval s = v) (hown : w.ownsRow base e 1 v n xs) (hx : a.eval x = .slice (some ⟨H, 0, none⟩) 1 1) (hy : w.cell? ⟨H, 0, none⟩ = some y) (h1 : y.oneCell' = true)
    (hbytes : (n + 1) * bytes ≤ 140737488355328) (hb0 : 1 ≤ bytes) (hbase : base ≤ w.heap.size)
    (h : ∀ A c w', w'.ownsRow base e 1 (.slice A (n + 1) c) (n + 1) (xs ++ [y]) → Below base w w' → K (a.put o.dst (.slice A (n + 1) c)) w') :
    if Region.wanted o (yielded ops a.tmps) = true then Oper.wp P o a w K Q else E := by
  obtain ⟨i0, hi0, hz0, hz1, hz2⟩ := info_parts hi
  refine step_append_lies _ hgd s x t ho base e i0 z 1 bytes ht hi0 hz0 hz1 hz2 hzs (by decide) v n xs hs hown ⟨H, 0, none⟩ 1 1 [y] hx rfl ?_ ?_ (by decide) ?_ hbytes hbase _ rfl ?_
  · intro j u hu
    cases j with
    | zero => simp at hu; subst hu; exact hy
    | succ j => simp at hu
  · intro u hu; simp at hu; subst hu; exact h1
  · have : n + 1 ≤ (n + 1) * bytes := Nat.le_mul_of_pos_right _ hb0
    simp only [maxLen]; omega
  · intro g cap w' h2 h3 _ _
    exact h _ _ w' h2 (below_own hown h3 hbase)
theorem own_form {base : Nat} {e : TypeId} {k n : Nat} {v : Value} {xs : List Value} {w : World} (h : w.ownsRow base e k v n xs) : ∃ A c, v = .slice A n c := by
  rcases h.2 with ⟨rfl, rfl⟩ | ⟨g, cap, cur, rfl, _⟩
  · exact ⟨_, _, rfl⟩
  · exact ⟨_, _, rfl⟩

theorem magic_at (j : Nat) (h : j < 4) : ∃ c : Nat, c < 256 ∧ (Pl.magicB[j]'(by simpa [Pl.magicB] using h)).toNat = c ∧ ∀ W, (Instr.index 9 (.string ⟨#[104, 105, 98, 120]⟩) (.int .i64 (j : Int))).run Try.prog W = .ok (.int .u8 (c : Int)) W := by
  obtain rfl | rfl | rfl | rfl : j = 0 ∨ j = 1 ∨ j = 2 ∨ j = 3 := by omega
  · exact ⟨104, by omega, rfl, fun W => by kernel_rfl⟩
  · exact ⟨105, by omega, rfl, fun W => by kernel_rfl⟩
  · exact ⟨98, by omega, rfl, fun W => by kernel_rfl⟩
  · exact ⟨120, by omega, rfl, fun W => by kernel_rfl⟩
/-- The first j bytes are the magic's. -/
def HeadTo (b : List UInt8) (j : Nat) : Prop := b.take j = Pl.magicB.take j
theorem headTo_step {b : List UInt8} {j : Nat} (h : HeadTo b j) (hj : j < b.length) (h4 : j < 4) (he : b[j] = Pl.magicB[j]'(by simpa [Pl.magicB] using h4)) : HeadTo b (j + 1) := by
  unfold HeadTo at h ⊢
  rw [List.take_succ_eq_append_getElem hj, List.take_succ_eq_append_getElem (by simpa [Pl.magicB] using h4), h, he]
theorem head_bad {b : List UInt8} {j : Nat} (hj : j < b.length) (h4 : j < 4) (he : b[j] ≠ Pl.magicB[j]'(by simpa [Pl.magicB] using h4)) : Pl.headBad b = true := by
  refine decide_eq_true fun h => he ?_
  have h1 : (b.take (min b.length 4))[j]? = (Pl.magicB.take (min b.length 4))[j]? := by rw [h]
  rw [List.getElem?_take, List.getElem?_take, if_pos (by omega), if_pos (by omega), List.getElem?_eq_getElem hj, List.getElem?_eq_getElem (by simpa [Pl.magicB] using h4)] at h1
  injection h1
theorem head_good {b : List UInt8} {j : Nat} (h : HeadTo b j) (hj : j = min b.length 4) : Pl.headBad b = false := by
  subst hj; exact decide_eq_false (fun h' => h' h)

theorem txt_snoc (b : List UInt8) (j : Nat) : txt b (j + 1) (j + 1) = txt b j j ++ [.int .u32 (Pl.fieldN b (14 + 4 * j) 4 : Int)] := by
  unfold txt; simp [List.range_succ]
set_option maxRecDepth 100000 in
set_option maxHeartbeats 2000000 in
theorem rof_any (b : List UInt8) (w : World) (hb : b.length ≤ 1000000) : Calls Try.prog 35 #[.string ⟨b.toArray⟩] w (RetB (OfOut b) w) := by
  have hG : ∀ (a s : Nat), s ≤ 4 → ∀ w, Calls Try.prog 24 #[.string ⟨((b.drop a).take s).toArray⟩] w (Ret (.int .u64 (Pl.fieldN b a s : Int)) w) := by
    intro a s hs w
    have h1 : ((b.drop a).take s).length ≤ s := List.length_take_le _ _
    have := rget_any ((b.drop a).take s) (by omega) w
    rw [List.take_take, Nat.min_eq_right (by omega)] at this
    exact this
  have HG := Lib.hid hG; clear hG
  go_enter Try.func35, Try.ntmps35
  go_wp2_with fail
  obtain ⟨W, hW⟩ : ∃ W, W = (w.alloc (.cells #[.slice none 0 0, .string ⟨#[]⟩, .int .i64 0, .int .u32 0] 43)).alloc (.cells #[.slice none 0 0, .string ⟨#[]⟩, .int .i64 0, .int .u32 0] 43) := ⟨_, rfl⟩
  have hsz : W.heap.size = w.heap.size + 2 := by rw [hW]; simp [go_sem]
  have hbw : Below w.heap.size w W := by rw [hW]; exact ((Below.refl _ _).alloc (Nat.le_refl _) _).alloc (by simp) _
  have hr0 : W.heap[w.heap.size]? = some (.cells #[.slice none 0 0, .string ⟨#[]⟩, .int .i64 0, .int .u32 0] 43 (0, 0)) := by
    rw [hW]; exact (Below.heap_alloc _ _ _ (by simp)).trans (heap_alloc_new w _)
  have hr1 : W.heap[w.heap.size + 1]? = some (.cells #[.slice none 0 0, .string ⟨#[]⟩, .int .i64 0, .int .u32 0] 43 (0, 0)) := by
    rw [hW]; exact heap_alloc_2 w _ _
  rw [← hW]
  have HW := Lib.hid (And.intro hsz (And.intro hr0 hr1)); clear hW hsz hr0 hr1
  go_loopw [5] (fun i wr => ∃ (j q : Nat), j ≤ 4 ∧ j ≤ b.length ∧ i = .int .i64 j ∧ wr = W.drewN q ∧ Hid (HeadTo b j)) (fun i _ => 4 - (intOf i).toNat)
  case atStart => exact ⟨0, 0, by omega, by omega, rfl, rfl, by simp [Hid, HeadTo]⟩
  case round =>
    obtain ⟨j, q, hj4, hjb, rfl, rfl, HT⟩ := hrel
    have z0 : ∀ i, W.cell? ⟨w.heap.size, i, none⟩ = (#[.slice none 0 0, .string ⟨#[]⟩, .int .i64 0, .int .u32 0] : Array Value)[i]? := fun i => cell_of_row W _ i _ _ _ HW.out.2.1
    have z1 : ∀ i, W.cell? ⟨w.heap.size + 1, i, none⟩ = (#[.slice none 0 0, .string ⟨#[]⟩, .int .i64 0, .int .u32 0] : Array Value)[i]? := fun i => cell_of_row W _ i _ _ _ HW.out.2.2
    have zf : ∀ i, W.frozen? ⟨w.heap.size, i, none⟩ = false := fun i => frozen_of W _ i _ _ HW.out.2.1
    have Z := Lib.hid (And.intro z0 (And.intro z1 zf)); clear z0 z1 zf
    have a0 : W.cell? ⟨w.heap.size, 0, none⟩ = some (.slice none 0 0) := Z.out.1 0
    have a1 : W.cell? ⟨w.heap.size, 1, none⟩ = some (.string ⟨#[]⟩) := Z.out.1 1
    have a2 : W.cell? ⟨w.heap.size, 2, none⟩ = some (.int .i64 0) := Z.out.1 2
    have a3 : W.cell? ⟨w.heap.size, 3, none⟩ = some (.int .u32 0) := Z.out.1 3
    have b0 : W.cell? ⟨w.heap.size + 1, 0, none⟩ = some (.slice none 0 0) := Z.out.2.1 0
    have b1 : W.cell? ⟨w.heap.size + 1, 1, none⟩ = some (.string ⟨#[]⟩) := Z.out.2.1 1
    have b2 : W.cell? ⟨w.heap.size + 1, 2, none⟩ = some (.int .i64 0) := Z.out.2.1 2
    have b3 : W.cell? ⟨w.heap.size + 1, 3, none⟩ = some (.int .u32 0) := Z.out.2.1 3
    have zf := Z.out.2.2
    by_cases hin : j < 4 ∧ j < b.length
    · obtain ⟨h4, hjl⟩ := hin
      obtain ⟨m, hm256, hm, hix⟩ := magic_at j h4
      obtain ⟨c, hc⟩ : ∃ c : Nat, (b[j]).toNat = c := ⟨_, rfl⟩
      have hc256 : c < 256 := by rw [← hc]; exact UInt8.toNat_lt _
      have hixb : ∀ W', (Instr.index 9 (.string ⟨b.toArray⟩) (.int .i64 (j : Int))).run Try.prog W' = .ok (.int .u8 (c : Int)) W' := by
        intro W'
        rw [← hc]
        have hj0 : (0 : Int) ≤ (j : Int) := by omega
        have hj1 : (j : Int) < (b.length : Int) := by omega
        simp [go_sem, hj0, hj1, hjl]
      by_cases he : c = m
      · subst he
        have hsp := headTo_step HT.out hjl h4 (UInt8.toNat_inj.1 (by rw [hc, hm]))
        have HN := Lib.hid (And.intro hsp (And.intro hc hm)); clear hsp hc hm
        have hne : ((c : Int) != (c : Int)) = false := by simp
        go_wp2_with fail
        go_quiet (fail)
        go_wp2_with fail
        go_roundw
        case rel => exact ⟨j + 1, _, by omega, by omega, by go_num, rfl, HN.out.1⟩
        case measure => simp [intOf]; omega
      · have hbad := head_bad hjl h4 (fun h => he (by rw [← hc, ← hm, h]))
        have hE : Pl.ofE b = 3 := by unfold Pl.ofE; rw [hbad]; rfl
        have hne : ((c : Int) != (m : Int)) = true := by simp; omega
        have HN := Lib.hid (And.intro hE (And.intro hc hm)); clear hE hc hm hbad
        go_wp2_with fail
        go_quiet (fail)
        go_wp2_with fail
        refine bodyPost_ret (v := .tuple #[.agg #[.slice none 0 0, .string ⟨#[]⟩, .int .i64 0, .int .u32 0], .int .i64 3]) (by simp [results, Try.results35, go_sem, a0, a1, a2, a3]) rfl ?_
        refine ⟨_, rfl, ofOut_no HN.out.1 (by decide) _, ?_⟩
        exact ((((below_drewN hbw _).setCell (by simp) _).setCell (by simp) _).setCell (by simp) _).setCell (by simp) _
    · have hgood := head_good HT.out (by omega)
      have HH := Lib.hid hgood; clear hgood
      by_cases h14 : b.length < 14
      · have hE : Pl.ofE b = 4 := by unfold Pl.ofE; rw [HH.out]; simp [h14]
        have HE := Lib.hid hE; clear hE
        have h14' : decide ((b.length : Int) < 14) = true := decide_eq_true (by omega)
        go_wp2_with fail
        all_goals try (exfalso; omega)
        all_goals refine bodyPost_ret (v := .tuple #[.agg #[.slice none 0 0, .string ⟨#[]⟩, .int .i64 0, .int .u32 0], .int .i64 4]) (by simp [results, Try.results35, go_sem, a0, a1, a2, a3]) rfl ?_
        all_goals refine ⟨_, rfl, ofOut_no HE.out (by decide) _, ?_⟩
        all_goals exact ((((below_drewN hbw _).setCell (by simp) _).setCell (by simp) _).setCell (by simp) _).setCell (by simp) _
      · have h14' : decide ((b.length : Int) < 14) = false := decide_eq_false (by omega)
        obtain rfl : j = 4 := by omega
        clear hin
        have hf8 := Pl.fieldN_2 b 8
        have hf10 := Pl.fieldN_2 b 10
        have hf12 := Pl.fieldN_2 b 12
        have hf4 := Pl.fieldN_4 b 4
        obtain ⟨k, hk⟩ : ∃ k, Pl.fieldN b 8 2 = k := ⟨_, rfl⟩
        obtain ⟨z, hz⟩ : ∃ z, Pl.fieldN b 10 2 = z := ⟨_, rfl⟩
        obtain ⟨rm, hrm⟩ : ∃ z, Pl.fieldN b 12 2 = z := ⟨_, rfl⟩
        obtain ⟨en, hen⟩ : ∃ z, Pl.fieldN b 4 4 = z := ⟨_, rfl⟩
        have hEq : Pl.ofE b = if b.length < 14 + 4 * k + z then 4 else if 14 + 4 * k + z < b.length then 3 else if Pl.chk (Pl.bodyE b) = 0 then 0 else 3 := by
          unfold Pl.ofE; rw [HH.out, hk, hz]; simp [h14]
        have g8 := HG.out 8 2 (by omega)
        have g10 := HG.out 10 2 (by omega)
        have g12 := HG.out 12 2 (by omega)
        have g4 := HG.out 4 4 (by omega)
        rw [hk] at hf8 g8
        rw [hz] at hf10 g10
        rw [hrm] at hf12 g12
        rw [hen] at hf4 g4
        have HC := Lib.hid (And.intro g8 (And.intro g10 (And.intro g12 g4))); clear g8 g10 g12 g4
        have HK := Lib.hid (And.intro hk (And.intro hz (And.intro hrm (And.intro hen hEq)))); clear hk hz hrm hen hEq
        have l8 : (8 : Int) ≤ (b.length : Int) := by omega
        have l10 : (10 : Int) ≤ (b.length : Int) := by omega
        have l12 : (12 : Int) ≤ (b.length : Int) := by omega
        have l14 : (14 : Int) ≤ (b.length : Int) := by omega
        have m10 : 10 ≤ b.length := by omega
        have m12 : 12 ≤ b.length := by omega
        go_wp2_with fail
        (with_reducible refine (HC.out.1 _).mono ?_)
        rintro e w1 ⟨rfl, rfl⟩
        go_wp2_with fail
        (with_reducible refine (HC.out.2.1 _).mono ?_)
        rintro e w1 ⟨rfl, rfl⟩
        by_cases hlo : b.length < 14 + 4 * k + z
        · have hE : Pl.ofE b = 4 := by rw [HK.out.2.2.2.2, if_pos hlo]
          have HE := Lib.hid hE; clear hE
          have hlo' : decide ((b.length : Int) < 14 + 4 * (k : Int) + (z : Int)) = true := decide_eq_true (by omega)
          go_wp2_with fail
          refine bodyPost_ret (v := .tuple #[.agg #[.slice none 0 0, .string ⟨#[]⟩, .int .i64 0, .int .u32 0], .int .i64 4]) (by simp [results, Try.results35, go_sem, a0, a1, a2, a3]) rfl ?_
          refine ⟨_, rfl, ofOut_no HE.out (by decide) _, ?_⟩
          exact ((((below_drewN hbw _).setCell (by simp) _).setCell (by simp) _).setCell (by simp) _).setCell (by simp) _
        have hlo' : decide ((b.length : Int) < 14 + 4 * (k : Int) + (z : Int)) = false := decide_eq_false (by omega)
        by_cases hhi : 14 + 4 * k + z < b.length
        · have hE : Pl.ofE b = 3 := by rw [HK.out.2.2.2.2, if_neg hlo, if_pos hhi]
          have HE := Lib.hid hE; clear hE
          have hhi' : decide (14 + 4 * (k : Int) + (z : Int) < (b.length : Int)) = true := decide_eq_true (by omega)
          go_wp2_with fail
          refine bodyPost_ret (v := .tuple #[.agg #[.slice none 0 0, .string ⟨#[]⟩, .int .i64 0, .int .u32 0], .int .i64 3]) (by simp [results, Try.results35, go_sem, a0, a1, a2, a3]) rfl ?_
          refine ⟨_, rfl, ofOut_no HE.out (by decide) _, ?_⟩
          exact ((((below_drewN hbw _).setCell (by simp) _).setCell (by simp) _).setCell (by simp) _).setCell (by simp) _
        have hhi' : decide (14 + 4 * (k : Int) + (z : Int) < (b.length : Int)) = false := decide_eq_false (by omega)
        have hlen : b.length = 14 + 4 * k + z := by omega
        have s8 : IntKind.u32.wrap (en : Int) = en := by rw [IntKind.wrap_u32]; omega
        have s9 : IntKind.i64.wrap (rm : Int) = rm := IntWalk.i64_in _ (by omega)
        have e1 : IntKind.i64.wrap (4 * (k : Int)) = 4 * (k : Int) := IntWalk.i64_in _ (by omega)
        have e2 : IntKind.i64.wrap (14 + 4 * (k : Int)) = 14 + 4 * (k : Int) := IntWalk.i64_in _ (by omega)
        have s1 : (14 + 4 * (k : Int)).toNat = 14 + 4 * k := by omega
        have s3 : (0 : Int) ≤ 14 + 4 * (k : Int) := by omega
        have s5 : 14 + 4 * (k : Int) ≤ (b.length : Int) := by omega
        have HL := Lib.hid hlen; clear hlen
        go_wp2_with fail
        obtain ⟨V, hV⟩ : ∃ V, W.drewN q = V := ⟨_, rfl⟩
        rw [hV]
        have hVW : Below W.heap.size W V := by rw [← hV]; exact below_drewN (Below.refl _ _) _
        have hVs : V.heap.size = W.heap.size := by rw [← hV]; simp [go_sem]
        have HV := Lib.hid (And.intro hV hVs); clear hV hVs a0 a1 a2 a3 b0 b1 b2 b3 zf
        refine wp_region_held_drew (S := (fun w' => True)) (by kernel_rfl) trivial (fun hHeld => ?_)
        refine wpAnyH_take (i := 0) (v := ?_) rfl (by kernel_rfl) (by kernel_rfl) (by kernel_rfl) (fun _ _ _ h => h) (Or.inl ⟨by rfl, ?_⟩) hHeld ?_
        rotate_left
        · (intro w' hSw; (try dsimp only at hSw); go_simp; try with_reducible rfl)
        simp only [Act.put, List.setIfInBounds_toArray, List.set_cons_zero, List.set_cons_succ]
        refine wpAnyH_take (i := 1) (v := ?_) rfl (by kernel_rfl) (by kernel_rfl) (by kernel_rfl) (fun _ _ _ h => h) (Or.inl ⟨by rfl, ?_⟩) hHeld ?_
        rotate_left
        · (intro w' hSw; (try dsimp only at hSw); go_simp; try with_reducible rfl)
        simp only [Act.put, List.setIfInBounds_toArray, List.set_cons_zero, List.set_cons_succ]
        refine still_take (i := 2) (v := (.int .u64 (en : Int))) rfl (by kernel_rfl) (fun _ _ _ h => h) _ _ _ _ (by kernel_rfl) (by kernel_rfl) ⟨by rfl, _, _, fun w' hSw => ⟨?_, (HC.out.2.2.2 w')⟩⟩ hHeld ?_
        · (try dsimp only at hSw); go_simp; try with_reducible rfl
        simp only [Act.put, List.setIfInBounds_toArray, List.set_cons_zero, List.set_cons_succ]
        refine wpAnyH_take (i := 3) (v := ?_) rfl (by kernel_rfl) (by kernel_rfl) (by kernel_rfl) (fun _ _ _ h => h) (Or.inl ⟨by rfl, ?_⟩) hHeld ?_
        rotate_left
        · (intro w' hSw; (try dsimp only at hSw); go_simp; try with_reducible rfl)
        simp only [Act.put, List.setIfInBounds_toArray, List.set_cons_zero, List.set_cons_succ]
        refine wpAnyH_take (i := 4) (v := ?_) rfl (by kernel_rfl) (by kernel_rfl) (by kernel_rfl) (fun _ _ _ h => h) (Or.inl ⟨by rfl, ?_⟩) hHeld ?_
        rotate_left
        · (intro w' hSw; (try dsimp only at hSw); go_simp; try with_reducible rfl)
        simp only [Act.put, List.setIfInBounds_toArray, List.set_cons_zero, List.set_cons_succ]
        refine wpAnyH_take (i := 5) (v := ?_) rfl (by kernel_rfl) (by kernel_rfl) (by kernel_rfl) (fun _ _ _ h => h) (Or.inl ⟨by rfl, ?_⟩) hHeld ?_
        rotate_left
        · (intro w' hSw; (try dsimp only at hSw); go_simp; try with_reducible rfl)
        simp only [Act.put, List.setIfInBounds_toArray, List.set_cons_zero, List.set_cons_succ]
        refine still_take (i := 6) (v := (.int .u64 (rm : Int))) rfl (by kernel_rfl) (fun _ _ _ h => h) _ _ _ _ (by kernel_rfl) (by kernel_rfl) ⟨by rfl, _, _, fun w' hSw => ⟨?_, (HC.out.2.2.1 w')⟩⟩ hHeld ?_
        · (try dsimp only at hSw); go_simp; try with_reducible rfl
        simp only [Act.put, List.setIfInBounds_toArray, List.set_cons_zero, List.set_cons_succ]
        refine wpAnyH_take (i := 7) (v := ?_) rfl (by kernel_rfl) (by kernel_rfl) (by kernel_rfl) (fun _ _ _ h => h) (Or.inl ⟨by rfl, ?_⟩) hHeld ?_
        rotate_left
        · (intro w' hSw; (try dsimp only at hSw); go_simp; try with_reducible rfl)
        simp only [Act.put, List.setIfInBounds_toArray, List.set_cons_zero, List.set_cons_succ]
        refine wpAnyH_take (i := 8) (v := ?_) rfl (by kernel_rfl) (by kernel_rfl) (by kernel_rfl) (fun _ _ _ h => h) (Or.inl ⟨by rfl, ?_⟩) hHeld ?_
        rotate_left
        · (intro w' hSw; (try dsimp only at hSw); go_simp; try with_reducible rfl)
        simp only [Act.put, List.setIfInBounds_toArray, List.set_cons_zero, List.set_cons_succ]
        refine wpAnyH_take (i := 9) (v := ?_) rfl (by kernel_rfl) (by kernel_rfl) (by kernel_rfl) (fun _ _ _ h => h) (Or.inl ⟨by rfl, ?_⟩) hHeld ?_
        rotate_left
        · (intro w' hSw; (try dsimp only at hSw); go_simp; try with_reducible rfl)
        simp only [Act.put, List.setIfInBounds_toArray, List.set_cons_zero, List.set_cons_succ]
        refine wpAnyH_take (i := 10) (v := ?_) rfl (by kernel_rfl) (by kernel_rfl) (by kernel_rfl) (fun _ _ _ h => h) (Or.inl ⟨by rfl, ?_⟩) hHeld ?_
        rotate_left
        · (intro w' hSw; (try dsimp only at hSw); go_simp; try with_reducible rfl)
        simp only [Act.put, List.setIfInBounds_toArray, List.set_cons_zero, List.set_cons_succ]
        refine wpAnyH_take (i := 11) (v := ?_) rfl (by kernel_rfl) (by kernel_rfl) (by kernel_rfl) (fun _ _ _ h => h) (Or.inl ⟨by rfl, ?_⟩) hHeld ?_
        rotate_left
        · (intro w' hSw; (try dsimp only at hSw); go_simp; try with_reducible rfl)
        simp only [Act.put, List.setIfInBounds_toArray, List.set_cons_zero, List.set_cons_succ]
        refine wpAnyH_take (i := 12) (v := ?_) rfl (by kernel_rfl) (by kernel_rfl) (by kernel_rfl) (fun _ _ _ h => h) (Or.inl ⟨by rfl, ?_⟩) hHeld ?_
        rotate_left
        · (intro w' hSw; (try dsimp only at hSw); go_simp; try with_reducible rfl)
        simp only [Act.put, List.setIfInBounds_toArray, List.set_cons_zero, List.set_cons_succ]
        refine wpAnyH_take (i := 13) (v := ?_) rfl (by kernel_rfl) (by kernel_rfl) (by kernel_rfl) (fun _ _ _ h => h) (Or.inl ⟨by rfl, ?_⟩) hHeld ?_
        rotate_left
        · (intro w' hSw; (try dsimp only at hSw); go_simp; try with_reducible rfl)
        simp only [Act.put, List.setIfInBounds_toArray, List.set_cons_zero, List.set_cons_succ]
        refine wpAnyH_ready (rs := [14]) (by kernel_rfl) (by simp) ?_
        refine AllReadyH.cons rfl (fun K hK => ?_) ?_
        · go_simp
          refine hK.out _ _ trivial (fun hHeld => ?_)
          clear hK K
          (try simp only [Act.put, List.setIfInBounds_toArray, List.set_cons_zero, List.set_cons_succ])
          refine wpAnyH_ready (rs := [15]) (by kernel_rfl) (by simp) ?_
          refine AllReadyH.cons rfl (fun K hK => ?_) ?_
          · go_simp
            refine hK.out _ _ trivial (fun hHeld => ?_)
            clear hK K
            (try simp only [Act.put, List.setIfInBounds_toArray, List.set_cons_zero, List.set_cons_succ])
            refine wpAnyH_done (by kernel_rfl) ?_ _
            obtain ⟨dz, hdz⟩ : ∃ dz, List.take (b.length - (14 + 4 * k)) (List.drop (14 + 4 * k) b) = dz := ⟨_, rfl⟩
            rw [hdz]
            obtain ⟨V2, hV2⟩ : ∃ V2, (V.alloc (.cells #[.slice none 0 0, .string ⟨dz.toArray⟩, .int .i64 (rm : Int), .int .u32 (en : Int)] 43)).drew = V2 := ⟨_, rfl⟩
            rw [hV2]
            have hx2 : V2.heap[V.heap.size]? = some (.cells #[.slice none 0 0, .string ⟨dz.toArray⟩, .int .i64 (rm : Int), .int .u32 (en : Int)] 43 (0, 0)) := by rw [← hV2]; exact heap_alloc_new V _
            have hb2 : Below V.heap.size V V2 := by rw [← hV2]; exact ((Below.refl _ _).alloc (Nat.le_refl _) _).drew
            have hs2 : V2.heap.size = V.heap.size + 1 := by rw [← hV2]; simp [go_sem]
            have HV2 := Lib.hid (And.intro hdz (And.intro hV2 (And.intro hs2 hx2))); clear hdz hV2 hs2 hx2
            clear s8 s9 e1 e2 s1 s3 s5
            go_wp2_with fail
            go_loopw [9] (fun i wr => ∃ (j c : Nat) (A : Option Addr), j ≤ k ∧ i = .int .i64 (j : Nat) ∧ Hid (wr.heap[V.heap.size]? = some (.cells #[.slice A j c, .string ⟨dz.toArray⟩, .int .i64 (rm : Int), .int .u32 (en : Int)] 43 (0, 0))) ∧ wr.ownsRow (V.heap.size + 1) 41 1 (.slice A j c) j (txt b j j) ∧ Below V.heap.size V wr ∧ V.heap.size + 1 ≤ wr.heap.size) (fun i _ => k - (intOf i).toNat)
            case atStart => exact ⟨0, 0, none, by omega, rfl, HV2.out.2.2.2, ⟨by simp [txt], .inl ⟨rfl, rfl⟩⟩, hb2, by rw [HV2.out.2.2.1]; omega⟩
            case round =>
              clear hb2
              obtain ⟨j, c, A, hj, rfl, HX, hown, hbx, hsx⟩ := hrel
              have hx0 : wr.cell? ⟨V.heap.size, 0, none⟩ = some (.slice A j c) := cell_of_row wr _ 0 _ _ _ HX.out
              by_cases hjk : j < k
              · obtain ⟨v, hv⟩ : ∃ v, Pl.fieldN b (14 + 4 * j) 4 = v := ⟨_, rfl⟩
                have hv4 := Pl.fieldN_4 b (14 + 4 * j)
                have hcall := HG.out (14 + 4 * j) 4 (by omega)
                rw [hv] at hcall hv4
                have HC2 := Lib.hid (And.intro hcall hv); clear hcall hv
                have hlen := HL.out
                have e1 : IntKind.i64.wrap (4 * (j : Int)) = 4 * (j : Int) := IntWalk.i64_in _ (by omega)
                have e2 : IntKind.i64.wrap (14 + 4 * (j : Int)) = 14 + 4 * (j : Int) := IntWalk.i64_in _ (by omega)
                have e3 : IntKind.i64.wrap (18 + 4 * (j : Int)) = 18 + 4 * (j : Int) := IntWalk.i64_in _ (by omega)
                have e4 : IntKind.u32.wrap (v : Int) = v := by rw [IntKind.wrap_u32]; omega
                have s1 : (14 + 4 * (j : Int)).toNat = 14 + 4 * j := by omega
                have s2 : (18 + 4 * (j : Int)).toNat = 18 + 4 * j := by omega
                have s3 : (0 : Int) ≤ 14 + 4 * (j : Int) := by omega
                have s4 : (0 : Int) ≤ 18 + 4 * (j : Int) := by omega
                have s5 : 18 + 4 * (j : Int) ≤ (b.length : Int) := by omega
                have s6 : 14 + 4 * (j : Int) ≤ 18 + 4 * (j : Int) := by omega
                have s7 : 18 + 4 * j - (14 + 4 * j) = 4 := by omega
                clear hlen
                go_wp2_with fail
                refine wp_region_held_drew (S := (fun w' => True)) (by kernel_rfl) trivial (fun hHeld => ?_)
                refine wpAnyH_take (i := 0) (v := ?_) rfl (by kernel_rfl) (by kernel_rfl) (by kernel_rfl) (fun _ _ _ h => h) (Or.inl ⟨by rfl, ?_⟩) hHeld ?_
                rotate_left
                · (intro w' hSw; (try dsimp only at hSw); go_simp; try with_reducible rfl)
                simp only [Act.put, List.setIfInBounds_toArray, List.set_cons_zero, List.set_cons_succ]
                refine wpAnyH_take (i := 2) (v := ?_) rfl (by kernel_rfl) (by kernel_rfl) (by kernel_rfl) (fun _ _ _ h => h) (Or.inl ⟨by rfl, ?_⟩) hHeld ?_
                rotate_left
                · (intro w' hSw; (try dsimp only at hSw); go_simp; try with_reducible rfl)
                simp only [Act.put, List.setIfInBounds_toArray, List.set_cons_zero, List.set_cons_succ]
                refine wpAnyH_take (i := 3) (v := ?_) rfl (by kernel_rfl) (by kernel_rfl) (by kernel_rfl) (fun _ _ _ h => h) (Or.inl ⟨by rfl, ?_⟩) hHeld ?_
                rotate_left
                · (intro w' hSw; (try dsimp only at hSw); go_simp; try with_reducible rfl)
                simp only [Act.put, List.setIfInBounds_toArray, List.set_cons_zero, List.set_cons_succ]
                refine wpAnyH_take (i := 4) (v := ?_) rfl (by kernel_rfl) (by kernel_rfl) (by kernel_rfl) (fun _ _ _ h => h) (Or.inl ⟨by rfl, ?_⟩) hHeld ?_
                rotate_left
                · (intro w' hSw; (try dsimp only at hSw); go_simp; try with_reducible rfl)
                simp only [Act.put, List.setIfInBounds_toArray, List.set_cons_zero, List.set_cons_succ]
                refine wpAnyH_take (i := 5) (v := ?_) rfl (by kernel_rfl) (by kernel_rfl) (by kernel_rfl) (fun _ _ _ h => h) (Or.inl ⟨by rfl, ?_⟩) hHeld ?_
                rotate_left
                · (intro w' hSw; (try dsimp only at hSw); go_simp; try with_reducible rfl)
                simp only [Act.put, List.setIfInBounds_toArray, List.set_cons_zero, List.set_cons_succ]
                refine wpAnyH_take (i := 6) (v := ?_) rfl (by kernel_rfl) (by kernel_rfl) (by kernel_rfl) (fun _ _ _ h => h) (Or.inl ⟨by rfl, ?_⟩) hHeld ?_
                rotate_left
                · (intro w' hSw; (try dsimp only at hSw); go_simp; try with_reducible rfl)
                simp only [Act.put, List.setIfInBounds_toArray, List.set_cons_zero, List.set_cons_succ]
                refine wpAnyH_take (i := 7) (v := ?_) rfl (by kernel_rfl) (by kernel_rfl) (by kernel_rfl) (fun _ _ _ h => h) (Or.inl ⟨by rfl, ?_⟩) hHeld ?_
                rotate_left
                · (intro w' hSw; (try dsimp only at hSw); go_simp; try with_reducible rfl)
                simp only [Act.put, List.setIfInBounds_toArray, List.set_cons_zero, List.set_cons_succ]
                refine wpAnyH_take (i := 8) (v := ?_) rfl (by kernel_rfl) (by kernel_rfl) (by kernel_rfl) (fun _ _ _ h => h) (Or.inl ⟨by rfl, ?_⟩) hHeld ?_
                rotate_left
                · (intro w' hSw; (try dsimp only at hSw); go_simp; try with_reducible rfl)
                simp only [Act.put, List.setIfInBounds_toArray, List.set_cons_zero, List.set_cons_succ]
                refine wpAnyH_take (i := 9) (v := ?_) rfl (by kernel_rfl) (by kernel_rfl) (by kernel_rfl) (fun _ _ _ h => h) (Or.inl ⟨by rfl, ?_⟩) hHeld ?_
                rotate_left
                · (intro w' hSw; (try dsimp only at hSw); go_simp; try with_reducible rfl)
                simp only [Act.put, List.setIfInBounds_toArray, List.set_cons_zero, List.set_cons_succ]
                refine still_take (i := 10) (v := (.int .u64 (v : Int))) rfl (by kernel_rfl) (fun _ _ _ h => h) _ _ _ _ (by kernel_rfl) (by kernel_rfl) ⟨by rfl, _, _, fun w' hSw => ⟨?_, (HC2.out.1 w')⟩⟩ hHeld ?_
                · (try dsimp only at hSw); go_simp; try with_reducible rfl
                simp only [Act.put, List.setIfInBounds_toArray, List.set_cons_zero, List.set_cons_succ]
                refine wpAnyH_take (i := 11) (v := ?_) rfl (by kernel_rfl) (by kernel_rfl) (by kernel_rfl) (fun _ _ _ h => h) (Or.inl ⟨by rfl, ?_⟩) hHeld ?_
                rotate_left
                · (intro w' hSw; (try dsimp only at hSw); go_simp; try with_reducible rfl)
                simp only [Act.put, List.setIfInBounds_toArray, List.set_cons_zero, List.set_cons_succ]
                have hxa : (wr.alloc (.cells #[.int .u32 (v : Int)] 41)).cell? ⟨V.heap.size, 0, none⟩ = some (.slice A j c) := (World.cell?_alloc_lt _ _ _ (by exact hsx)).trans hx0
                refine wpAnyH_ready (rs := [1, 12]) (by kernel_rfl) (by simp) (AllReadyH.cons rfl (fun K hK => ?_) (AllReadyH.cons rfl (fun K hK => ?_) AllReadyH.nil))
                go_simp
                refine hK.out _ _ trivial (fun hHeld => ?_)
                clear hK K
                (try simp only [Act.put, List.setIfInBounds_toArray, List.set_cons_zero, List.set_cons_succ])
                refine wpAnyH_ready (rs := [12]) (by kernel_rfl) (by simp) (AllReadyH.cons rfl (fun K hK => ?_) AllReadyH.nil)
                go_simp
                refine hK.out _ _ trivial (fun hHeld => ?_)
                clear hK K
                (try simp only [Act.put, List.setIfInBounds_toArray, List.set_cons_zero, List.set_cons_succ])
                rotate_left
                go_simp
                refine hK.out _ _ trivial (fun hHeld => ?_)
                clear hK K
                (try simp only [Act.put, List.setIfInBounds_toArray, List.set_cons_zero, List.set_cons_succ])
                refine wpAnyH_ready (rs := [1]) (by kernel_rfl) (by simp) (AllReadyH.cons rfl (fun K hK => ?_) AllReadyH.nil)
                go_simp
                refine hK.out _ _ trivial (fun hHeld => ?_)
                clear hK K
                (try simp only [Act.put, List.setIfInBounds_toArray, List.set_cons_zero, List.set_cons_succ])
                all_goals
                  refine wpAnyH_ready (rs := [13]) (by kernel_rfl) (by simp) (AllReadyH.cons rfl (fun K hK => ?_) AllReadyH.nil)
                  refine step_push rfl (.tmp 78) (.tmp 89) 40 rfl (V.heap.size + 1) 41 _ 4 Try.underlying40 info_u32 rfl _ _ _ _ (.int .u32 (v : Int)) wr.heap.size (by rfl) (hown.alloc _) (by rfl) (World.cell?_alloc_new _ _ _ _) rfl (by omega) (by omega) (by simp; omega) ?_
                  intro A2 c2 w2 hown2 hb2
                  have hx2 : w2.cell? ⟨V.heap.size, 0, none⟩ = some (.slice A j c) := (hb2.cell (p := ⟨V.heap.size, 0, none⟩) (by simp)).trans hxa
                  have hX2 : w2.heap[V.heap.size]? = some (.cells #[.slice A j c, .string ⟨dz.toArray⟩, .int .i64 (rm : Int), .int .u32 (en : Int)] 43 (0, 0)) := (hb2.block _ (by simp)).trans ((Below.heap_alloc wr _ _ (by omega)).trans HX.out)
                  have hfz2 : w2.frozen? ⟨V.heap.size, 0, none⟩ = false := frozen_of w2 _ 0 _ _ hX2
                  have hwg : V.heap.size < w2.heap.size := lt_of_blk hX2
                  have HX2 := Lib.hid hX2; clear hX2
                  refine hK.out _ _ trivial (fun hHeld => ?_)
                  clear hK K
                  (try simp only [Act.put, List.setIfInBounds_toArray, List.set_cons_zero, List.set_cons_succ])
                  dsimp only [List.getElem_toArray, List.getElem_cons_succ, List.getElem_cons_zero]
                  refine wpAnyH_take (i := 14) (v := ?_) rfl (by kernel_rfl) (by kernel_rfl) (by kernel_rfl) (fun _ _ _ h => h) (Or.inl ⟨by rfl, ?_⟩) hHeld ?_
                  rotate_left
                  · (intro w' hSw; (try dsimp only at hSw); go_simp; try with_reducible rfl)
                  simp only [Act.put, List.setIfInBounds_toArray, List.set_cons_zero, List.set_cons_succ]
                  refine wpAnyH_ready (rs := [15]) (by kernel_rfl) (by simp) (AllReadyH.cons rfl (fun K hK => ?_) AllReadyH.nil)
                  go_simp
                  refine hK.out _ _ trivial (fun hHeld => ?_)
                  clear hK K
                  (try simp only [Act.put, List.setIfInBounds_toArray, List.set_cons_zero, List.set_cons_succ])
                  refine wpAnyH_done (by kernel_rfl) ?_ _
                  go_wp2_with fail
                  go_roundw
                  case rel =>
                    have hbn : Below V.heap.size V w2 := (hbx.trans (((Below.refl wr.heap.size wr).alloc (Nat.le_refl _) _).mono hbx.size)).drew.trans (hb2.mono (Nat.le_succ _))
                    refine ⟨j + 1, c2, A2, by omega, by go_num, ?_, ?_, hbn.setCell (by simp) _, ?_⟩
                    · exact set_at w2 _ 0 _ _ _ HX2.out
                    · rw [txt_snoc, HC2.out.2]
                      exact ownsRow_setCell_below hown2 (a := ⟨V.heap.size, 0, none⟩) (by simp) _
                    · simp [go_sem]; omega
                  case measure => simp [intOf]; omega
              · obtain rfl : j = k := by omega
                have hsz2 := HW.out.1
                have hvs := HV.out.2
                have hR0 : wr.heap[w.heap.size]? = some (.cells #[.slice none 0 0, .string ⟨#[]⟩, .int .i64 0, .int .u32 0] 43 (0, 0)) := (hbx.block _ (by omega)).trans ((hVW.block _ (by omega)).trans HW.out.2.1)
                have hR1 : wr.heap[w.heap.size + 1]? = some (.cells #[.slice none 0 0, .string ⟨#[]⟩, .int .i64 0, .int .u32 0] 43 (0, 0)) := (hbx.block _ (by omega)).trans ((hVW.block _ (by omega)).trans HW.out.2.2)
                have hx1 : wr.cell? ⟨V.heap.size, 1, none⟩ = some (.string ⟨dz.toArray⟩) := cell_of_row wr _ 1 _ _ _ HX.out
                have hx2 : wr.cell? ⟨V.heap.size, 2, none⟩ = some (.int .i64 (rm : Int)) := cell_of_row wr _ 2 _ _ _ HX.out
                have hx3 : wr.cell? ⟨V.heap.size, 3, none⟩ = some (.int .u32 (en : Int)) := cell_of_row wr _ 3 _ _ _ HX.out
                have hrd := Rd.own hown
                rw [txt_full b j HK.out.1] at hrd
                have hlw : ∀ g, A = some ⟨g, 0, none⟩ → V.heap.size + 1 ≤ g ∧ g < wr.heap.size := by
                  intro g hg
                  have := hown.lt g (by simp [Value.ownBlock, hg])
                  exact this
                have hev : exeV A c (Pl.bodyE b) = .agg #[.slice A j c, .string ⟨dz.toArray⟩, .int .i64 (rm : Int), .int .u32 (en : Int)] := by
                  unfold exeV Pl.bodyE
                  simp only [List.length_map, List.length_range]
                  rw [HK.out.1, HK.out.2.2.1, HK.out.2.2.2.1, ← HV2.out.1, List.take_of_length_le (by rw [List.length_drop]; omega)]
                have hok : ExeOk (Pl.bodyE b) := bodyE_ok b (by omega)
                have hck := rcheck_any A c (Pl.bodyE b) wr hok
                rw [hev] at hck
                have hEq := HK.out.2.2.2.2
                rw [if_neg hlo, if_neg hhi] at hEq
                obtain ⟨q, hq⟩ : ∃ q, Pl.chk (Pl.bodyE b) = q := ⟨_, rfl⟩
                rw [hq] at hck hEq
                have hq01 : q = 0 ∨ q = 1 := by rw [← hq]; unfold Pl.chk; split <;> simp
                have HVV := Lib.hid (And.intro hev (And.intro hEq (And.intro hsz2 hvs))); clear hev hEq hq hsz2 hvs
                have HRR := Lib.hid (And.intro hR0 hR1); clear hR0 hR1
                go_wp2_with fail
                (with_reducible refine hck.mono ?_)
                rintro e w1 ⟨v, rfl, rfl, hb1⟩
                have hvs := HVV.out.2.2.2
                have hsz2 := HVV.out.2.2.1
                have hX1 := (hb1.block V.heap.size (by omega)).trans HX.out
                have hrd1 := hrd.below hb1
                have hQ0 := (hb1.block w.heap.size (by omega)).trans HRR.out.1
                have hQ1 := (hb1.block (w.heap.size + 1) (by omega)).trans HRR.out.2
                have hbf : Below w.heap.size w w1 := (hbw.trans (hVW.mono (by omega))).trans ((hbx.trans (hb1.mono hbx.size)).mono (by omega))
                have y0 : w1.cell? ⟨V.heap.size, 0, none⟩ = some (.slice A j c) := cell_of_row w1 _ 0 _ _ _ hX1
                have y1 : w1.cell? ⟨V.heap.size, 1, none⟩ = some (.string ⟨dz.toArray⟩) := cell_of_row w1 _ 1 _ _ _ hX1
                have y2 : w1.cell? ⟨V.heap.size, 2, none⟩ = some (.int .i64 (rm : Int)) := cell_of_row w1 _ 2 _ _ _ hX1
                have y3 : w1.cell? ⟨V.heap.size, 3, none⟩ = some (.int .u32 (en : Int)) := cell_of_row w1 _ 3 _ _ _ hX1
                have z0 : w1.cell? ⟨w.heap.size, 0, none⟩ = some (.slice none 0 0) := cell_of_row w1 _ 0 _ _ _ hQ0
                have z1 : w1.cell? ⟨w.heap.size, 1, none⟩ = some (.string ⟨#[]⟩) := cell_of_row w1 _ 1 _ _ _ hQ0
                have z2 : w1.cell? ⟨w.heap.size, 2, none⟩ = some (.int .i64 0) := cell_of_row w1 _ 2 _ _ _ hQ0
                have z3 : w1.cell? ⟨w.heap.size, 3, none⟩ = some (.int .u32 0) := cell_of_row w1 _ 3 _ _ _ hQ0
                have x0 : w1.cell? ⟨w.heap.size + 1, 0, none⟩ = some (.slice none 0 0) := cell_of_row w1 _ 0 _ _ _ hQ1
                have x1 : w1.cell? ⟨w.heap.size + 1, 1, none⟩ = some (.string ⟨#[]⟩) := cell_of_row w1 _ 1 _ _ _ hQ1
                have x2 : w1.cell? ⟨w.heap.size + 1, 2, none⟩ = some (.int .i64 0) := cell_of_row w1 _ 2 _ _ _ hQ1
                have x3 : w1.cell? ⟨w.heap.size + 1, 3, none⟩ = some (.int .u32 0) := cell_of_row w1 _ 3 _ _ _ hQ1
                have zf : ∀ i, w1.frozen? ⟨w.heap.size, i, none⟩ = false := fun i => frozen_of w1 _ i _ _ hQ0
                have hgl : V.heap.size = w.heap.size + 2 := by omega
                have HGL := Lib.hid hgl
                clear hck hx0 hx1 hx2 hx3 hvs hsz2 hgl hX1 hQ0 hQ1
                rcases hq01 with rfl | rfl
                · go_wp2_with fail
                  refine bodyPost_ret (v := .tuple #[.agg #[.slice A j c, .string ⟨dz.toArray⟩, .int .i64 (rm : Int), .int .u32 (en : Int)], .int .i64 0]) (by simp [results, Try.results35, go_sem, z0, z1, z2, z3]) rfl ?_
                  refine ⟨_, rfl, ?_, ?_⟩
                  · have h0 : Pl.ofE b = 0 := by rw [HVV.out.2.1]; simp
                    refine ⟨A, c, ?_, ?_⟩
                    · unfold Pl.ofX; rw [h0, if_pos rfl, HVV.out.1]; rfl
                    · unfold Pl.ofX; rw [h0, if_pos rfl]
                      have hl : (Pl.bodyE b).text.length = j := by simp [Pl.bodyE, HK.out.1]
                      rw [hl]
                      refine ⟨hrd1.1, fun hn => ?_⟩
                      obtain ⟨g, off, hA, hlt, hcc⟩ := hrd1.2 hn
                      obtain rfl : off = 0 := by
                        obtain ⟨g', cap, hv, _⟩ := hown.form (by omega)
                        injection hv with hv; rw [hv] at hA; injection hA with hA; injection hA with _ h2; exact h2.symm
                      have hg := hlw g hA
                      have hge : w.heap.size ≠ g := by have := HGL.out; omega
                      refine ⟨g, 0, hA, ?_, fun i hi => ?_⟩
                      · simp only [World.size_setCell]; exact hlt
                      · rw [World.cell?_setCell_far _ _ _ _ hge, World.cell?_setCell_far _ _ _ _ hge, World.cell?_setCell_far _ _ _ _ hge, World.cell?_setCell_far _ _ _ _ hge]
                        exact hcc i hi
                  · exact (((hbf.setCell (by simp) _).setCell (by simp) _).setCell (by simp) _).setCell (by simp) _
                · go_wp2_with fail
                  refine bodyPost_ret (v := .tuple #[.agg #[.slice none 0 0, .string ⟨#[]⟩, .int .i64 0, .int .u32 0], .int .i64 3]) (by simp [results, Try.results35, go_sem, z0, z1, z2, z3]) rfl ?_
                  refine ⟨_, rfl, ofOut_no (by rw [HVV.out.2.1]; simp) (by decide) _, ?_⟩
                  exact (((hbf.setCell (by simp) _).setCell (by simp) _).setCell (by simp) _).setCell (by simp) _
          · exact AllReadyH.nil
        · exact AllReadyH.nil
end Go.Proofs.Ytplhmhclcfclhaa
