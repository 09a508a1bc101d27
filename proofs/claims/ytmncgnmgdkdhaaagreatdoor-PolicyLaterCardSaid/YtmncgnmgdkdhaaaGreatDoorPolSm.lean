/- Law 49's same on two rows that are one; snapshots appended within a region that draws its order; the walk behind such a region, once for all its orders. -/
import Derived.Test.YtmncgnmgdkdhaaaGreatDoorPolBy
namespace Go.Proofs.YtmncgnmgdkdhaaaGreatDoor
open Go.RowKit
set_option linter.unusedVariables false
set_option linter.unusedSimpArgs false
set_option maxRecDepth 100000 in
set_option maxHeartbeats 4000000 in
theorem same_yes (A1 A2 : Option Addr) (n c1 c2 : Nat) (K : List Bool) (w : World) (hn : n ≤ 1000000) (hK : K.length = n) (h1 : Rd w 1 A1 n (bools K)) (h2 : Rd w 1 A2 n (bools K)) :
    Calls Tryz.prog 18 #[.slice A1 n c1, .slice A2 n c2] w (RetB (fun v _ => v = .bool true) w) := by
  have HH := Lib.hid (And.intro h1 (And.intro h2 hK)); clear h1 h2 hK
  go_enter Tryz.func18, Tryz.ntmps18
  go_wp2_with fail
  go_loopw [13] (fun i wr => ∃ j : Nat, j ≤ n ∧ i = .int .i64 j ∧ Below w.heap.size w wr) (fun i _ => n - (intOf i).toNat)
  case atStart => exact ⟨0, by omega, rfl, Below.refl _ _⟩
  case round =>
    obtain ⟨j, hj, rfl, hb⟩ := hrel
    by_cases hjn : j < n
    · obtain ⟨b1, o1, e1, -, hc1⟩ := (HH.out.1.below hb).all (by omega)
      obtain ⟨b2, o2, e2, -, hc2⟩ := (HH.out.2.1.below hb).all (by omega)
      have hl : (bools K).length = n := by rw [bools_len]; exact HH.out.2.2
      have hg : (bools K)[j]? = some (.bool (K.getD j false)) := by
        have := bools_get K j (by rw [HH.out.2.2]; exact hjn)
        simpa using this
      obtain ⟨x, hx⟩ : ∃ x, K.getD j false = x := ⟨_, rfl⟩
      rw [hx] at hg
      have ca : wr.cell? ⟨b1, o1 + j, none⟩ = some (.bool x) := by rw [hc1 j (by rw [hl]; exact hjn), hg]
      have cb : wr.cell? ⟨b2, o2 + j, none⟩ = some (.bool x) := by rw [hc2 j (by rw [hl]; exact hjn), hg]
      have j0 : (0 : Int) ≤ (j : Int) := by omega
      have j1 : (j : Int) < (n : Int) := by omega
      clear hc1 hc2 hl hg hx
      subst e1 e2
      go_upto_region 6 with (fail)
      refine wp_region_held_drew (S := (fun w' => w'.cell? ⟨b1, o1 + j, none⟩ = some (.bool x) ∧ w'.cell? ⟨b2, o2 + j, none⟩ = some (.bool x))) (by kernel_rfl) (by exact ⟨ca, cb⟩) (fun hHeld => ?_)
      refine wpAnyH_take (i := 0) (v := ?_) rfl (by kernel_rfl) (by kernel_rfl) (by kernel_rfl) (fun _ _ _ h => h) (Or.inl ⟨by kernel_rfl, ?_⟩) hHeld ?_
      rotate_left
      · (intro w' hSw; (try dsimp only at hSw); (try obtain ⟨hS0, hS1⟩ := hSw); go_simp; try with_reducible rfl)
      simp only [Act.put, List.setIfInBounds_toArray, List.set_cons_zero, List.set_cons_succ, List.getElem_toArray, List.getElem_cons_succ, List.getElem_cons_zero]
      refine wpAnyH_take (i := 1) (v := ?_) rfl (by kernel_rfl) (by kernel_rfl) (by kernel_rfl) (fun _ _ _ h => h) (Or.inl ⟨by kernel_rfl, ?_⟩) hHeld ?_
      rotate_left
      · (intro w' hSw; (try dsimp only at hSw); (try obtain ⟨hS0, hS1⟩ := hSw); go_simp; try with_reducible rfl)
      simp only [Act.put, List.setIfInBounds_toArray, List.set_cons_zero, List.set_cons_succ, List.getElem_toArray, List.getElem_cons_succ, List.getElem_cons_zero]
      refine wpAnyH_take (i := 2) (v := ?_) rfl (by kernel_rfl) (by kernel_rfl) (by kernel_rfl) (fun _ _ _ h => h) (Or.inl ⟨by kernel_rfl, ?_⟩) hHeld ?_
      rotate_left
      · (intro w' hSw; (try dsimp only at hSw); (try obtain ⟨hS0, hS1⟩ := hSw); go_simp; try with_reducible rfl)
      simp only [Act.put, List.setIfInBounds_toArray, List.set_cons_zero, List.set_cons_succ, List.getElem_toArray, List.getElem_cons_succ, List.getElem_cons_zero]
      refine wpAnyH_take (i := 3) (v := ?_) rfl (by kernel_rfl) (by kernel_rfl) (by kernel_rfl) (fun _ _ _ h => h) (Or.inl ⟨by kernel_rfl, ?_⟩) hHeld ?_
      rotate_left
      · (intro w' hSw; (try dsimp only at hSw); (try obtain ⟨hS0, hS1⟩ := hSw); go_simp; try with_reducible rfl)
      simp only [Act.put, List.setIfInBounds_toArray, List.set_cons_zero, List.set_cons_succ, List.getElem_toArray, List.getElem_cons_succ, List.getElem_cons_zero]
      refine wpAnyH_take (i := 4) (v := ?_) rfl (by kernel_rfl) (by kernel_rfl) (by kernel_rfl) (fun _ _ _ h => h) (Or.inl ⟨by kernel_rfl, ?_⟩) hHeld ?_
      rotate_left
      · (intro w' hSw; (try dsimp only at hSw); (try obtain ⟨hS0, hS1⟩ := hSw); go_simp; try with_reducible rfl)
      simp only [Act.put, List.setIfInBounds_toArray, List.set_cons_zero, List.set_cons_succ, List.getElem_toArray, List.getElem_cons_succ, List.getElem_cons_zero]
      refine wpAnyH_take (i := 5) (v := ?_) rfl (by kernel_rfl) (by kernel_rfl) (by kernel_rfl) (fun _ _ _ h => h) (Or.inl ⟨by kernel_rfl, ?_⟩) hHeld ?_
      rotate_left
      · (intro w' hSw; (try dsimp only at hSw); (try obtain ⟨hS0, hS1⟩ := hSw); go_simp; try with_reducible rfl)
      simp only [Act.put, List.setIfInBounds_toArray, List.set_cons_zero, List.set_cons_succ, List.getElem_toArray, List.getElem_cons_succ, List.getElem_cons_zero]
      refine wpAnyH_take (i := 6) (v := ?_) rfl (by kernel_rfl) (by kernel_rfl) (by kernel_rfl) (fun _ _ _ h => h) (Or.inl ⟨by kernel_rfl, ?_⟩) hHeld ?_
      rotate_left
      · (intro w' hSw; (try dsimp only at hSw); (try obtain ⟨hS0, hS1⟩ := hSw); go_simp; try with_reducible rfl)
      simp only [Act.put, List.setIfInBounds_toArray, List.set_cons_zero, List.set_cons_succ, List.getElem_toArray, List.getElem_cons_succ, List.getElem_cons_zero]
      refine wpAnyH_take (i := 7) (v := ?_) rfl (by kernel_rfl) (by kernel_rfl) (by kernel_rfl) (fun _ _ _ h => h) (Or.inl ⟨by kernel_rfl, ?_⟩) hHeld ?_
      rotate_left
      · (intro w' hSw; (try dsimp only at hSw); (try obtain ⟨hS0, hS1⟩ := hSw); go_simp; try with_reducible rfl)
      simp only [Act.put, List.setIfInBounds_toArray, List.set_cons_zero, List.set_cons_succ, List.getElem_toArray, List.getElem_cons_succ, List.getElem_cons_zero]
      refine wpAnyH_take (i := 8) (v := ?_) rfl (by kernel_rfl) (by kernel_rfl) (by kernel_rfl) (fun _ _ _ h => h) (Or.inl ⟨by kernel_rfl, ?_⟩) hHeld ?_
      rotate_left
      · (intro w' hSw; (try dsimp only at hSw); (try obtain ⟨hS0, hS1⟩ := hSw); go_simp; try with_reducible rfl)
      simp only [Act.put, List.setIfInBounds_toArray, List.set_cons_zero, List.set_cons_succ, List.getElem_toArray, List.getElem_cons_succ, List.getElem_cons_zero]
      refine wpAnyH_done (by kernel_rfl) ?_ _
      go_wp2_with fail
      exact ⟨⟨j + 1, by omega, by rw [Int.natCast_add]; rfl, hb.drew⟩, by simp [intOf]; omega⟩
    · obtain rfl : j = n := by omega
      go_wp2_with fail
      go_ret
      exact ⟨_, rfl, rfl, hb⟩
/-- append of a slice, nil or not, to a row of the call's own, at a step of a drawn region: which blocks stand as they were. -/
theorem step_push_g {P : Program} {ops : Array Oper} {o : Oper} {a : Act} {K : Act → World → Prop} {Q : Exit → Act → World → Prop} {E : Prop} (hgd : o.guard = none) (s x : Operand) (t : TypeId)
    (ho : o.op = .call { callee := .builtin .append, args := #[s, x], argTypes := #[t, t] })
    (base : Nat) (e : TypeId) (z : Value) (k bytes : Nat) (ht : P.underlying t = some (.slice e)) (hi : (P.info? e).map (fun i => (i.zero, i.size, i.bytes)) = some (some z, k, bytes)) (hzs : z.cells.size = k) (hk : 0 < k)
    (w : World) (v : Value) (n : Nat) (xs : List Value) (A : Option Addr) (m c : Nat) (ys : List Value) (hs : a.eval s = v) (hown : w.ownsRow base e k v n xs) (hx : a.eval x = .slice A m c) (hr : Rd w k A m ys) (hnil : A = none → c = 0) (h1 : ∀ u ∈ ys, u.oneCell' = true)
    (hbytes : (n + m) * bytes ≤ 140737488355328) (hb0 : 1 ≤ bytes) (hbase : base ≤ w.heap.size)
    (h : ∀ v' w', w'.ownsRow base e k v' (n + m) (xs ++ ys) → Below base w w' → (∀ G, G < w.heap.size → v.ownBlock ≠ some G → w'.heap[G]? = w.heap[G]?) → K (a.put o.dst v') w') :
    if Region.wanted o (yielded ops a.tmps) = true then Oper.wp P o a w K Q else E := by
  have hw : Region.wanted o (yielded ops a.tmps) = true := by simp [Region.wanted, hgd]
  rw [if_pos hw]
  obtain ⟨i0, hi0, hz0, hz1, hz2⟩ := info_parts hi
  rcases A with _ | ad
  · have hc := hnil rfl
    subst hc
    have hm : m = 0 := by
      rcases Nat.eq_zero_or_pos m with h0 | h0
      · exact h0
      · obtain ⟨b, off, he, _⟩ := hr.2 h0; cases he
    subst hm
    obtain rfl : ys = [] := List.eq_nil_of_length_eq_zero (by have := hr.1; simpa using this)
    have hrun := run_append_owned_none (P := P) (w := w) base t o.type e i0 k ht hi0 v n xs hown
    have hfin := h v w (by simpa using hown) (Below.refl _ _) (fun _ _ _ => rfl)
    unfold Oper.wp
    simp [execOp, ho, resolve, invoke, builtin, hs, hx, hrun, Result.andThen]
    exact hfin
  · refine wp_append_own w s x t ho base e i0 z k bytes ht hi0 hz0 hz1 hz2 hzs hk v n xs hs hown ad m c ys hx hr.1 ?_ h1 ?_ hbytes hbase ?_
    · intro j u hu
      have hj : j < ys.length := by
        rcases Nat.lt_or_ge j ys.length with hj | hj
        · exact hj
        · rw [List.getElem?_eq_none hj] at hu; cases hu
      have hm : 0 < m := by
        rcases Nat.eq_zero_or_pos m with h0 | h0
        · subst h0; have := hr.1; omega
        · exact h0
      obtain ⟨b, off, he, _, hc⟩ := hr.2 hm
      injection he with he
      subst he
      rw [addr_add, hc j hj, hu]
    · have : n + m ≤ (n + m) * bytes := Nat.le_mul_of_pos_right _ hb0
      simp only [maxLen]; omega
    · intro v' w' h2 h3 _
      exact h v' w' h2 (below_own hown h3 hbase) (fun G hG hne => h3.block G hG (fun e => hne e.symm))
theorem own_zero (W : World) (e : TypeId) : (W.alloc (.cells #[] e)).ownsRow W.heap.size e 5 (.slice (some ⟨W.heap.size, 0, none⟩) 0 0) 0 [] := World.ownsRow_made (base := W.heap.size) W #[] 0 (Nat.le_refl _) (by simp only [maxLen]; omega) rfl
theorem own_weak {w : World} {base base' : Nat} {e : TypeId} {k n : Nat} {v : Value} {xs : List Value} (h : w.ownsRow base e k v n xs) (hB : base' ≤ base) : w.ownsRow base' e k v n xs := by
  rcases h.2 with ⟨rfl, h0⟩ | ⟨g, cap, cur, rfl, h1, h2, h3⟩
  · exact ⟨h.1, .inl ⟨rfl, h0⟩⟩
  · exact ⟨h.1, .inr ⟨g, cap, cur, rfl, Nat.le_trans hB h1, h2, h3⟩⟩
/-- A row of one's own lies in no block of another type. -/
theorem own_type {w : World} {base : Nat} {e : TypeId} {k n : Nat} {v : Value} {xs : List Value} (h : w.ownsRow base e k v n xs) {G : Nat} {C : Array Value} {t : TypeId} {fr : Nat × Nat} (hG : w.heap[G]? = some (.cells C t fr)) (ht : t ≠ e) : v.ownBlock ≠ some G := by
  rcases h.2 with ⟨rfl, h0⟩ | ⟨g, cap, cur, rfl, h1, h2, h3⟩
  · intro e; cases e
  · intro e
    simp [Value.ownBlock] at e
    subst e
    rw [h2] at hG
    injection hG with hG; injection hG with _ hG _
    exact ht hG.symm
/-- The walk behind a drawn region, laid ahead of its orders. -/
theorem rest_intro {P : Program} {md : Region.Mode} {ops : Array Oper} {Q : Exit → Act → World → Prop} {S : World → Prop} {fuel : Nat} {listed : Array Bool} {T : Array Value} {w : World}
    (f : Value → Value → Value → Value → Value → Value → Array Value → Array Value) (G : Value → Value → World → Prop)
    (rest : ∀ v5 v7 v10 v12 v13 v16 W, G v5 v16 W → Q .normal { tmps := f v5 v7 v10 v12 v13 v16 T, defers := [] } W)
    (main : (∀ v5 v7 v10 v12 v13 v16 W, G v5 v16 W → Q .normal { tmps := f v5 v7 v10 v12 v13 v16 T, defers := [] } W) → wpAnyH P md ops Q S fuel listed { tmps := T, defers := [] } w) :
    wpAnyH P md ops Q S fuel listed { tmps := T, defers := [] } w := main rest
end Go.Proofs.YtmncgnmgdkdhaaaGreatDoor
