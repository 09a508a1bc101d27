/- The walk of slices.Insert of one object, where the row must grow. -/
import Derived.Test.YtnapokalopcdkaaShIns
namespace Go.Proofs.Ytnapokalopcdkaa
open Go.RowKit
set_option linter.unusedVariables false
set_option linter.unusedSimpArgs false

theorem grow_list (cl X cs Y : List Value) (n i c : Nat) (hc : cl.length = c * 4) (hX : cl.take (i * 4) = X.take (i * 4)) (hcs : cs = X.drop (i * 4)) (hY : Y.length = 4) (hin : i < n) (hr : n + 1 ≤ c) (hXl : X.length = n * 4) :
    (splice (splice cl (i * 4) Y) ((i + 1) * 4) cs).take ((n + 1) * 4) = X.take (i * 4) ++ (Y ++ cs) := by
  have hcl : cs.length = (n - i) * 4 := by rw [hcs, List.length_drop, hXl]; omega
  have h1 : (splice cl (i * 4) Y).take ((i + 1) * 4) = X.take (i * 4) ++ Y := by
    unfold splice
    rw [hX, show X.take (i * 4) ++ (Y ++ cl.drop (i * 4 + Y.length)) = (X.take (i * 4) ++ Y) ++ cl.drop (i * 4 + Y.length) by simp]
    exact List.take_left' (by simp [List.length_take]; omega)
  rw [show splice (splice cl (i * 4) Y) ((i + 1) * 4) cs = (splice cl (i * 4) Y).take ((i + 1) * 4) ++ (cs ++ (splice cl (i * 4) Y).drop ((i + 1) * 4 + cs.length)) from rfl, h1]
  rw [show X.take (i * 4) ++ Y ++ (cs ++ (splice cl (i * 4) Y).drop ((i + 1) * 4 + cs.length)) = (X.take (i * 4) ++ (Y ++ cs)) ++ (splice cl (i * 4) Y).drop ((i + 1) * 4 + cs.length) by simp]
  exact List.take_left' (by simp [List.length_take]; omega)
theorem zeroCells_size (z : Array Value) (n : Nat) (hz : z.size = 4) : (Builtin.zeroCells z n).size = n * 4 := by
  simp [Builtin.zeroCells, hz]
set_option maxRecDepth 100000 in
set_option maxHeartbeats 1000000 in
theorem insert_grow (base : Nat) (A : Option Addr) (n c i : Nat) (l : List Pl.Obj) (o : Pl.Obj) (H : Nat) (w : World) (hl : l.length = n) (hown : w.ownsRow base 50 4 (.slice A n c) n (objCs l)) (hH : w.heap[H]? = some (.cells (objC o).toArray 50 (0, 0))) (hn : n ≤ 1000000) (hbase : base ≤ w.heap.size)
    (hin : i < n) (hroom : c < n + 1) :
    Calls Try.prog 29 #[.slice A n c, .int .i64 (i : Int), .slice (some ⟨H, 0, none⟩) 1 1] w (InsOut base A w (insL l i o)) := by
  obtain ⟨_, hnc, hc, _⟩ := own_sl hown
  rcases hown.2 with ⟨_, h0⟩ | ⟨g, cap, cur, hv, hbg, hg, hncap, hcap, hcs, htk⟩
  · omega
  injection hv with hA _ hcc
  subst hA hcc
  obtain rfl : c = n := by omega
  have q1 : ((i : Int) == (c : Int)) = false := beq_eq_false_iff_ne.2 (by omega)
  have b0 : (0 : Int) ≤ (i : Int) := by omega
  have b1 : (i : Int) ≤ (c : Int) := by omega
  have b5 : decide ((c : Int) < (c : Int) + 1) = true := decide_eq_true (by omega)
  have s1 : c ≠ i := by omega
  obtain ⟨i0, hi0, hz0, hz1, hz2⟩ := info_parts info_obj
  have hcg : ∀ j, w.cell? ⟨g, j, none⟩ = cur[j]? := fun j => cell_row w g j _ _ hg
  have hold : ∀ j v, ((objCs l).take (i * 4))[j]? = some v → w.cell? ((⟨g, 0, none⟩ : Addr).add j) = some v := by
    intro j v hj
    rw [addr_add, Nat.zero_add, hcg, ← hj, ← htk, List.take_take, Nat.min_eq_left (by omega), List.getElem?_take]
    have hjl : j < i * 4 := by
      rcases Nat.lt_or_ge j (i * 4) with h | h
      · exact h
      · rw [List.getElem?_eq_none (by rw [List.length_take]; omega)] at hj; cases hj
    rw [if_pos hjl]; simp
  have hap := run_append_zeros (P := Try.prog) w 22 3 22 50 i0 _ .i64 .i64 Try.underlying22 Try.underlying3 hi0 hz0 ⟨g, 0, none⟩ i c (c + 1 - i) ((objCs l).take (i * 4)) (by rw [hz1, List.length_take, objCs_len, hl]; omega) hold (by omega) (by omega) (by omega) (by omega) (by rw [hz2]; omega)
  rw [show ((c + 1 - i : Nat) : Int) = (c : Int) + 1 - (i : Int) by omega, show i + (c + 1 - i) = c + 1 by omega] at hap
  obtain ⟨nc, hnc2⟩ : ∃ nc, grownCap w (c + 1) c 50 = nc := ⟨_, rfl⟩
  have hncge : c + 1 ≤ nc := by rw [← hnc2]; exact grownCap_ge w _ _ _
  have hncle : nc ≤ maxLen := by rw [← hnc2]; exact grownCap_le_maxLen w _ _ _ (by unfold maxLen; omega)
  rw [hnc2] at hap
  obtain ⟨C, hC⟩ : ∃ C, ((objCs l).take (i * 4)).toArray ++ Builtin.zeroCells (Value.agg #[.string ⟨#[]⟩, .string ⟨#[]⟩, .string ⟨#[]⟩, .bool false]).cells (c + 1 - i) ++ Builtin.zeroCells (Value.agg #[.string ⟨#[]⟩, .string ⟨#[]⟩, .string ⟨#[]⟩, .bool false]).cells (nc - (c + 1)) = C := ⟨_, rfl⟩
  rw [hC] at hap
  obtain ⟨cl, hcl⟩ : ∃ cl, C = List.toArray cl := ⟨C.toList, by simp⟩
  have hcll : cl.length = nc * 4 := by
    have : C.size = nc * 4 := by
      rw [← hC, Array.size_append, Array.size_append, zeroCells_size _ _ rfl, zeroCells_size _ _ rfl]
      simp [objCs_len, hl]; omega
    rw [hcl] at this; simpa using this
  have hcltk : cl.take (i * 4) = (objCs l).take (i * 4) := by
    have : C.toList.take (i * 4) = (objCs l).take (i * 4) := by
      rw [← hC]
      simp only [Array.toList_append, List.append_assoc]
      exact List.take_left' (by simp [List.length_take, objCs_len, hl]; omega)
    rw [hcl] at this; simpa using this
  subst hcl
  have hgw := lt_of_blk hg
  have hHw := lt_of_blk hH
  obtain ⟨h, hh⟩ : ∃ h, w.heap.size = h := ⟨_, rfl⟩
  obtain ⟨W2, hW2⟩ : ∃ W2, w.drew.alloc (.cells cl.toArray 50) = W2 := ⟨_, rfl⟩
  have k1 : W2.heap[h]? = some (.cells cl.toArray 50 (0, 0)) := by rw [← hW2, ← hh]; exact heap_alloc_new w.drew _
  have k2 : W2.heap[g]? = some (.cells cur 50 (0, 0)) := by rw [← hW2]; exact (Below.heap_alloc w.drew _ g hgw).trans hg
  have k3 : W2.heap[H]? = some (.cells (objC o).toArray 50 (0, 0)) := by rw [← hW2]; exact (Below.heap_alloc w.drew _ H hHw).trans hH
  have k4 : Below base w W2 := by rw [← hW2]; exact ((Below.refl _ _).drew).alloc hbase _
  rw [hW2, hh] at hap
  have hbh : base ≤ h := by omega
  have hgh : g ≠ h := by omega
  have hHh : H ≠ h := by omega
  have hsz : (Try.prog.info? 50).map (·.size) = some 4 := by kernel_rfl
  have hsrc2 : ∀ j v, (objC o)[j]? = some v → W2.cell? ((⟨H, 0, none⟩ : Addr).add j) = some v := by
    intro j v hj
    rw [addr_add, Nat.zero_add, cell_row W2 H j _ _ k3]
    simpa using hj
  have hone2 : ∀ v ∈ objC o, v.oneCell' = true := by intro u hu; exact objC_one [o] u (by simpa [objCs] using hu)
  have hcp := run_copy_k (P := Try.prog) W2 22 22 3 50 4 h (i * 4) (c + 1 - i) (nc - i) ⟨H, 0, none⟩ 1 1 cl.toArray 50 (objC o) Try.underlying22 hsz k1 (by rw [show min 1 (c + 1 - i) = 1 by omega]; rfl) hsrc2 (by rw [List.size_toArray, hcll]; simp [objC]; omega) hone2
  rw [show min ((1 : Nat) : Int) ((c + 1 - i : Nat) : Int) = 1 by omega] at hcp
  obtain ⟨W3, hW3⟩ : ∃ W3, W2.setRow h (cl.toArray.toList.take (i * 4) ++ objC o ++ cl.toArray.toList.drop (i * 4 + (objC o).length)).toArray = W3 := ⟨_, rfl⟩
  have m1 : W3.heap[h]? = some (.cells (splice cl (i * 4) (objC o)).toArray 50 (0, 0)) := by
    rw [← hW3, setRow_heap W2 h _ _ 50 (0, 0) k1]; simp [splice]
  have m2 : W3.heap[g]? = some (.cells cur 50 (0, 0)) := by rw [← hW3, setRow_other W2 h g _ hgh]; exact k2
  have m4 : Below base w W3 := by rw [← hW3]; exact below_setRow k4 hbh _
  have m5 : ∀ b, b < h → W3.heap[b]? = w.heap[b]? := by
    intro b hb
    rw [← hW3, setRow_other W2 h b _ (by omega), ← hW2]
    exact Below.heap_alloc w.drew _ b (by show b < w.heap.size; omega)
  have hhw : w.heap.size ≤ h := by omega
  have HM5 := Lib.hid m5; clear m5
  rw [hW3] at hcp
  obtain ⟨L3, hL3⟩ : ∃ L3, splice cl (i * 4) (objC o) = L3 := ⟨_, rfl⟩
  have hl3 : L3.length = nc * 4 := by rw [← hL3, length_splice _ _ _ (by rw [hcll]; simp [objC]; omega), hcll]
  rw [hL3] at m1
  obtain ⟨cs1, hcs1⟩ : ∃ cs1, objCs (l.drop i) = cs1 := ⟨_, rfl⟩
  have hcs1l : cs1.length = (c - i) * 4 := by rw [← hcs1, objCs_len, List.length_drop, hl]
  have hsrc1 : ∀ j v, cs1[j]? = some v → W3.drew.cell? ((⟨g, i * 4, none⟩ : Addr).add j) = some v := by
    intro j v hj
    rw [addr_add]
    have hjl : j < cs1.length := by
      rcases Nat.lt_or_ge j cs1.length with h | h
      · exact h
      · rw [List.getElem?_eq_none h] at hj; cases hj
    show W3.cell? ⟨g, i * 4 + j, none⟩ = some v
    rw [cell_row W3 g _ _ _ m2, ← hj, ← hcs1, ← objCs_drop, ← htk, List.getElem?_drop, List.getElem?_take, if_pos (by omega)]
    simp
  have hone1 : ∀ v ∈ cs1, v.oneCell' = true := by rw [← hcs1]; exact objC_one _
  have e1 : IntKind.i64.wrap ((i : Int) + 1) = (i : Int) + 1 := IntWalk.i64_in _ (by omega)
  have e2 : ((i : Int) + 1).toNat = i + 1 := by omega
  have e3 : (0 : Int) ≤ (i : Int) + 1 := by omega
  have b3 : (i : Int) + 1 ≤ (c : Int) + 1 := by omega
  have b4 : (i : Int) ≤ (c : Int) + 1 := by omega
  have s2 : nc ≠ i := by omega
  have s3 : nc ≠ i + 1 := by omega
  have hfin := grow_list cl (objCs l) cs1 (objC o) c i nc hcll hcltk (by rw [← hcs1, objCs_drop]) rfl hin hncge (by rw [objCs_len, hl])
  rw [hL3] at hfin
  have HG := Lib.hid (And.intro hap (And.intro hcp (And.intro m1 (And.intro m4 (And.intro hcs1l (And.intro hsrc1 (And.intro hone1 (And.intro hl3 (And.intro hfin (And.intro hsz (And.intro hl hcs1)))))))))))
  have hcp2 := hcp
  clear hap hcp m1 m2 m4 hcs1l hsrc1 hone1 hl3 hfin hsz k1 k2 k3 k4 hsrc2 hone2 hW2 hW3 hL3 hcs1 hcll hcltk hC hold hcg hg hH hcs htk hl hi0 hz0 hz1 hz2 hh hnc2
  go_enter Try.func29, Try.ntmps29
  go_wp2_with (at_builtin; refine Lib.wpList_append_run _ rfl (.tmp 34) (.tmp 39) 22 3 rfl _ _ rfl rfl _ _ HG.out.1 ?_)
  refine wp_region_held_drew (S := (fun w' => True)) (by kernel_rfl) trivial (fun hHeld => ?_)
  refine wpAnyH_take (i := 0) (v := ?_) rfl (by kernel_rfl) (by kernel_rfl) (by kernel_rfl) (fun _ _ _ h => h) (Or.inl ⟨by kernel_rfl, ?_⟩) hHeld ?_
  rotate_left
  · (intro w' hSw; (try dsimp only at hSw); go_simp; try with_reducible rfl)
  simp only [Act.put, List.setIfInBounds_toArray, List.set_cons_zero, List.set_cons_succ, List.getElem_toArray, List.getElem_cons_succ, List.getElem_cons_zero]
  refine wpAnyH_take (i := 1) (v := ?_) rfl (by kernel_rfl) (by kernel_rfl) (by kernel_rfl) (fun _ _ _ h => h) (Or.inl ⟨by kernel_rfl, ?_⟩) hHeld ?_
  rotate_left
  · (intro w' hSw; (try dsimp only at hSw); go_simp; try with_reducible rfl)
  simp only [Act.put, List.setIfInBounds_toArray, List.set_cons_zero, List.set_cons_succ, List.getElem_toArray, List.getElem_cons_succ, List.getElem_cons_zero]
  refine wpAnyH_take (i := 2) (v := ?_) rfl (by kernel_rfl) (by kernel_rfl) (by kernel_rfl) (fun _ _ _ h => h) (Or.inl ⟨by kernel_rfl, ?_⟩) hHeld ?_
  rotate_left
  · (intro w' hSw; (try dsimp only at hSw); go_simp; try with_reducible rfl)
  simp only [Act.put, List.setIfInBounds_toArray, List.set_cons_zero, List.set_cons_succ, List.getElem_toArray, List.getElem_cons_succ, List.getElem_cons_zero]
  refine wpAnyH_take (i := 3) (v := ?_) rfl (by kernel_rfl) (by kernel_rfl) (by kernel_rfl) (fun _ _ _ h => h) (Or.inl ⟨by kernel_rfl, ?_⟩) hHeld ?_
  rotate_left
  · (intro w' hSw; (try dsimp only at hSw); go_simp; try with_reducible rfl)
  simp only [Act.put, List.setIfInBounds_toArray, List.set_cons_zero, List.set_cons_succ, List.getElem_toArray, List.getElem_cons_succ, List.getElem_cons_zero]
  refine wpAnyH_take (i := 4) (v := ?_) rfl (by kernel_rfl) (by kernel_rfl) (by kernel_rfl) (fun _ _ _ h => h) (Or.inl ⟨by kernel_rfl, ?_⟩) hHeld ?_
  rotate_left
  · (intro w' hSw; (try dsimp only at hSw); go_simp; try with_reducible rfl)
  simp only [Act.put, List.setIfInBounds_toArray, List.set_cons_zero, List.set_cons_succ, List.getElem_toArray, List.getElem_cons_succ, List.getElem_cons_zero]
  refine wpAnyH_take (i := 5) (v := ?_) rfl (by kernel_rfl) (by kernel_rfl) (by kernel_rfl) (fun _ _ _ h => h) (Or.inl ⟨by kernel_rfl, ?_⟩) hHeld ?_
  rotate_left
  · (intro w' hSw; (try dsimp only at hSw); go_simp; try with_reducible rfl)
  simp only [Act.put, List.setIfInBounds_toArray, List.set_cons_zero, List.set_cons_succ, List.getElem_toArray, List.getElem_cons_succ, List.getElem_cons_zero]
  refine wpAnyH_take (i := 6) (v := ?_) rfl (by kernel_rfl) (by kernel_rfl) (by kernel_rfl) (fun _ _ _ h => h) (Or.inl ⟨by kernel_rfl, ?_⟩) hHeld ?_
  rotate_left
  · (intro w' hSw; (try dsimp only at hSw); go_simp; try with_reducible rfl)
  simp only [Act.put, List.setIfInBounds_toArray, List.set_cons_zero, List.set_cons_succ, List.getElem_toArray, List.getElem_cons_succ, List.getElem_cons_zero]
  refine wpAnyH_take (i := 7) (v := ?_) rfl (by kernel_rfl) (by kernel_rfl) (by kernel_rfl) (fun _ _ _ h => h) (Or.inl ⟨by kernel_rfl, ?_⟩) hHeld ?_
  rotate_left
  · (intro w' hSw; (try dsimp only at hSw); go_simp; try with_reducible rfl)
  simp only [Act.put, List.setIfInBounds_toArray, List.set_cons_zero, List.set_cons_succ, List.getElem_toArray, List.getElem_cons_succ, List.getElem_cons_zero]
  refine wpAnyH_ready (rs := [8]) (by kernel_rfl) (by simp) (AllReadyH.cons rfl (fun K hK => ?_) AllReadyH.nil)
  refine copy_step rfl (.tmp 50) (.tmp 53) 22 22 rfl 50 4 Try.underlying22 HG.out.2.2.2.2.2.2.2.2.2.1 h ((i + 1) * 4) (c - i) (nc - (i + 1)) ⟨g, i * 4, none⟩ (c - i) (c - i) (by rfl) (by rfl) L3 50 HG.out.2.2.1 cs1 (by rw [Nat.min_self]; exact HG.out.2.2.2.2.1) HG.out.2.2.2.2.2.1 (by rw [HG.out.2.2.2.2.2.2.2.1, HG.out.2.2.2.2.1]; omega) HG.out.2.2.2.2.2.2.1 base w HG.out.2.2.2.1.drew hbh ?_
  intro w4 Hg4 hb4 hsz4 hot4
  refine hK.out _ _ trivial (fun hHeld => ?_)
  clear hK K
  (try simp only [Act.put, List.setIfInBounds_toArray, List.set_cons_zero, List.set_cons_succ, List.getElem_toArray, List.getElem_cons_succ, List.getElem_cons_zero])
  refine wpAnyH_done (by kernel_rfl) ?_ _
  go_wp2_with fail
  go_ret
  refine ⟨_, rfl, ?_, hb4, fun b hb hne => (hot4 b (by omega)).trans (HM5.out b (by omega))⟩
  obtain ⟨-, -, -, -, hcs1l, -, -, hl3, hfin, -, hl, hcs1⟩ := HG.out
  have hlen : (insL l i o).length = c + 1 := by unfold insL; simp; omega
  rw [hlen]
  refine ⟨by rw [objCs_len, hlen], .inr ⟨h, nc, (splice L3 ((i + 1) * 4) cs1).toArray, rfl, hbh, Hg4.out, hncge, hncle, ?_, ?_⟩⟩
  · rw [List.size_toArray, length_splice _ _ _ (by rw [hl3, hcs1l]; omega), hl3]
  · show List.take ((c + 1) * 4) (splice L3 ((i + 1) * 4) cs1) = _
    rw [hfin]
    unfold insL
    rw [objCs_app, ← objCs_take, show objCs (o :: l.drop i) = objC o ++ objCs (l.drop i) from rfl, hcs1]
end Go.Proofs.Ytnapokalopcdkaa
