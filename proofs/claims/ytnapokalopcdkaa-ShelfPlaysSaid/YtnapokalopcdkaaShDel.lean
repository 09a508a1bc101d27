/- The walk of slices.Delete of one object. -/
import Derived.Test.YtnapokalopcdkaaShIns2
namespace Go.Proofs.Ytnapokalopcdkaa
open Go.RowKit
set_option linter.unusedVariables false
set_option linter.unusedSimpArgs false

theorem run_append_in {P : Program} (w : World) (t ty e : TypeId) (k : Nat) (ht : P.underlying t = some (.slice e)) (hsz : (P.info? e).map (·.size) = some k) (g sLen sCap : Nat) (ad : Addr) (n c : Nat) (cur : Array Value) (t' : TypeId) (cs : List Value)
    (hg : w.heap[g]? = some (.cells cur t' (0, 0))) (hn : cs.length = n * k) (hsrc : ∀ j v, cs[j]? = some v → w.cell? (ad.add j) = some v) (hfit : sLen * k + cs.length ≤ cur.size) (h1 : ∀ v ∈ cs, v.oneCell' = true) (hroom : sLen + n ≤ sCap) :
    (Builtin.append_ #[t, t] ty #[.slice (some ⟨g, 0, none⟩) sLen sCap, .slice (some ad) n c]).run P w = .ok (.slice (some ⟨g, 0, none⟩) (sLen + n) sCap) (w.setRow g (cur.toList.take (sLen * k) ++ cs ++ cur.toList.drop (sLen * k + cs.length)).toArray) := by
  have hst := run_storeCells_at P g (sLen * k) t' cs 0 cur w hg (by simpa using hfit) h1
  simp only [Nat.add_zero] at hst
  have hfc := run_firstCells_some (P := P) w k n ad n c cs hn hsrc
  have hadd : (⟨g, 0, none⟩ : Addr).add (sLen * k) = ⟨g, sLen * k, none⟩ := by rw [addr_add, Nat.zero_add]
  cases hq : P.info? e with
  | none => simp [hq] at hsz
  | some i =>
    have hi : i.size = k := by simpa [hq] using hsz
    simp [Builtin.append_, run_underlying ht, sizeOf, typeInfo, hq, hi, Builtin.lenOf, hroom, hfc, hadd, hst]
theorem run_clear1 {P : Program} (w : World) (t ty e : TypeId) (i : TypeInfo) (z : Value) (ht : P.underlying t = some (.slice e)) (hi : P.info? e = some i) (hz : i.zero = some z) (g off c : Nat) (cur : Array Value) (t' : TypeId)
    (hg : w.heap[g]? = some (.cells cur t' (0, 0))) (hfit : off + (Builtin.zeroCells z.cells 1).size ≤ cur.size) (h1 : ∀ v ∈ (Builtin.zeroCells z.cells 1).toList, v.oneCell' = true) :
    (Builtin.clear_ #[t] ty #[.slice (some ⟨g, off, none⟩) 1 c]).run P w = .ok (.tuple #[]) (w.setRow g (cur.toList.take off ++ (Builtin.zeroCells z.cells 1).toList ++ cur.toList.drop (off + (Builtin.zeroCells z.cells 1).toList.length)).toArray) := by
  have hst := run_storeCells_at P g off t' (Builtin.zeroCells z.cells 1).toList 0 cur w hg (by simpa using hfit) h1
  simp only [Nat.add_zero] at hst
  simp [Builtin.clear_, run_underlying ht, zeroValue, typeInfo, hi, hz, hst]
/-- The list without one. -/
def delL (l : List Pl.Obj) (i : Nat) : List Pl.Obj := l.take i ++ l.drop (i + 1)
theorem step_append_run {P : Program} {ops : Array Oper} {o : Oper} {a : Act} {w : World} {K : Act → World → Prop} {Q : Exit → Act → World → Prop} {E : Prop} (hgd : o.guard = none) (s x : Operand) (t tn : TypeId)
    (ho : o.op = .call { callee := .builtin .append, args := #[s, x], argTypes := #[t, tn] }) (vs vx : Value) (hs : a.eval s = vs) (hx : a.eval x = vx)
    (v' : Value) (w' : World) (hr : (Builtin.append_ #[t, tn] o.type #[vs, vx]).run P w = .ok v' w') (h : K (a.put o.dst v') w') :
    if Region.wanted o (yielded ops a.tmps) = true then Oper.wp P o a w K Q else E := by
  rw [if_pos (by simp [Region.wanted, hgd])]
  exact Lib.wp_append_run w s x t tn ho vs vx hs hx v' w' hr h
theorem del_list (cl X Z : List Value) (n i c : Nat) (hc : cl.length = c * 4) (hX : cl.take (n * 4) = X) (hin : i < n) (hr : n ≤ c) (hXl : X.length = n * 4) (hZ : Z.length = 4) :
    (splice (splice cl (i * 4) (X.drop ((i + 1) * 4))) ((n - 1) * 4) Z).take ((n - 1) * 4) = X.take (i * 4) ++ X.drop ((i + 1) * 4) := by
  have hdl : (X.drop ((i + 1) * 4)).length = (n - 1 - i) * 4 := by rw [List.length_drop, hXl]; omega
  have hP : cl.take (i * 4) = X.take (i * 4) := by rw [← hX, List.take_take, Nat.min_eq_left (by omega)]
  have h1 : (splice cl (i * 4) (X.drop ((i + 1) * 4))).take ((n - 1) * 4) = X.take (i * 4) ++ X.drop ((i + 1) * 4) := by
    unfold splice
    rw [hP, show X.take (i * 4) ++ (X.drop ((i + 1) * 4) ++ cl.drop (i * 4 + (X.drop ((i + 1) * 4)).length)) = (X.take (i * 4) ++ X.drop ((i + 1) * 4)) ++ cl.drop (i * 4 + (X.drop ((i + 1) * 4)).length) by simp]
    exact List.take_left' (by rw [List.length_append, List.length_take, hdl, hXl]; omega)
  rw [show splice (splice cl (i * 4) (X.drop ((i + 1) * 4))) ((n - 1) * 4) Z = (splice cl (i * 4) (X.drop ((i + 1) * 4))).take ((n - 1) * 4) ++ (Z ++ (splice cl (i * 4) (X.drop ((i + 1) * 4))).drop ((n - 1) * 4 + Z.length)) from rfl, h1]
  exact List.take_left' (by rw [List.length_append, List.length_take, hdl, hXl]; omega)
set_option maxRecDepth 100000 in
set_option maxHeartbeats 1000000 in
theorem delete_any (base : Nat) (A : Option Addr) (n c i : Nat) (l : List Pl.Obj) (w : World) (hl : l.length = n) (hown : w.ownsRow base 50 4 (.slice A n c) n (objCs l)) (hn : n ≤ 1000000) (hin : i < n) :
    Calls Try.prog 31 #[.slice A n c, .int .i64 (i : Int), .int .i64 ((i : Int) + 1)] w (InsOut base A w (delL l i)) := by
  obtain ⟨_, hnc, hc, _⟩ := own_sl hown
  rcases hown.2 with ⟨_, h0⟩ | ⟨g, cap, cur, hv, hbg, hg, hncap, hcap, hcs, htk⟩
  · omega
  injection hv with hA _ hcc
  subst hA hcc
  obtain ⟨i0, hi0, hz0, hz1, hz2⟩ := info_parts info_obj
  have hsz : (Try.prog.info? 50).map (·.size) = some 4 := by kernel_rfl
  obtain ⟨cl, hcl⟩ : ∃ cl, cur = List.toArray cl := ⟨cur.toList, by simp⟩
  subst hcl
  have hcll : cl.length = c * 4 := by simpa using hcs
  have htkl : cl.take (n * 4) = objCs l := by simpa using htk
  obtain ⟨cs1, hcs1⟩ : ∃ cs1, (objCs l).drop ((i + 1) * 4) = cs1 := ⟨_, rfl⟩
  have hcs1l : cs1.length = (n - (i + 1)) * 4 := by rw [← hcs1, List.length_drop, objCs_len, hl]; omega
  have hone1 : ∀ v ∈ cs1, v.oneCell' = true := by rw [← hcs1, objCs_drop]; exact objC_one _
  have hsrc1 : ∀ j v, cs1[j]? = some v → w.cell? ((⟨g, (i + 1) * 4, none⟩ : Addr).add j) = some v := by
    intro j v hj
    rw [addr_add]
    have hjl : j < cs1.length := by
      rcases Nat.lt_or_ge j cs1.length with h | h
      · exact h
      · rw [List.getElem?_eq_none h] at hj; cases hj
    have h2 : w.cell? ⟨g, (i + 1) * 4 + j, none⟩ = cl[(i + 1) * 4 + j]? := by rw [cell_row w g _ _ _ hg]; simp
    rw [h2, ← hj, ← hcs1, ← htkl, List.getElem?_drop, List.getElem?_take, if_pos (by omega)]
  obtain ⟨W2, hW2⟩ : ∃ W2, w.drew.setRow g (cl.toArray.toList.take (i * 4) ++ cs1 ++ cl.toArray.toList.drop (i * 4 + cs1.length)).toArray = W2 := ⟨_, rfl⟩
  have hap : ∀ ad, (cs1.length = 0 ∨ ad = ⟨g, (i + 1) * 4, none⟩) → ∀ cc, (Builtin.append_ #[22, 22] 22 #[.slice (some ⟨g, 0, none⟩) i c, .slice (some ad) (n - (i + 1)) cc]).run Try.prog w.drew = .ok (.slice (some ⟨g, 0, none⟩) (n - 1) c) W2 := by
    intro ad had cc
    have := run_append_in (P := Try.prog) w.drew 22 22 50 4 Try.underlying22 hsz g i c ad (n - (i + 1)) cc cl.toArray 50 cs1 hg hcs1l (by
      intro j v hj
      rcases had with h | h
      · rw [List.getElem?_eq_none (by omega)] at hj; cases hj
      · rw [h]; exact hsrc1 j v hj) (by rw [List.size_toArray, hcll, hcs1l]; omega) hone1 (by omega)
    rw [hW2, show i + (n - (i + 1)) = n - 1 by omega] at this
    exact this
  have m1 : W2.heap[g]? = some (.cells (splice cl (i * 4) cs1).toArray 50 (0, 0)) := by
    rw [← hW2, setRow_heap w.drew g _ _ 50 (0, 0) hg]; simp [splice]
  have m4 : Below base w W2 := by rw [← hW2]; exact below_setRow ((Below.refl _ _).drew) hbg _
  obtain ⟨L2, hL2⟩ : ∃ L2, splice cl (i * 4) cs1 = L2 := ⟨_, rfl⟩
  have hl2 : L2.length = c * 4 := by rw [← hL2, length_splice _ _ _ (by rw [hcll, hcs1l]; omega), hcll]
  rw [hL2] at m1
  obtain ⟨Z, hZ⟩ : ∃ Z, (Builtin.zeroCells (Value.agg #[.string ⟨#[]⟩, .string ⟨#[]⟩, .string ⟨#[]⟩, .bool false]).cells 1) = Z := ⟨_, rfl⟩
  have hZ4 : Z.size = 4 := by rw [← hZ]; exact zeroCells_size _ 1 rfl
  have hZ1 : ∀ v ∈ Z.toList, v.oneCell' = true := by rw [← hZ]; decide +kernel
  have hclr := run_clear1 (P := Try.prog) W2 22 0 50 i0 _ Try.underlying22 hi0 hz0 g ((n - 1) * 4) (c - (n - 1)) L2.toArray 50 m1 (by rw [hZ, hZ4, List.size_toArray, hl2]; omega) (by rw [hZ]; exact hZ1)
  rw [hZ] at hclr
  obtain ⟨W3, hW3⟩ : ∃ W3, W2.setRow g (L2.toArray.toList.take ((n - 1) * 4) ++ Z.toList ++ L2.toArray.toList.drop ((n - 1) * 4 + Z.toList.length)).toArray = W3 := ⟨_, rfl⟩
  have r1 : W3.heap[g]? = some (.cells (splice L2 ((n - 1) * 4) Z.toList).toArray 50 (0, 0)) := by
    rw [← hW3, setRow_heap W2 g _ _ 50 (0, 0) m1]; simp [splice]
  have r4 : Below base w W3 := by rw [← hW3]; exact below_setRow m4 hbg _
  have r5 : ∀ b, b ≠ g → W3.heap[b]? = w.heap[b]? := by
    intro b hb
    rw [← hW3, setRow_other W2 g b _ hb, ← hW2, setRow_other w.drew g b _ hb]
    rfl
  have HR5 := Lib.hid r5; clear r5
  rw [hW3] at hclr
  have hfin := del_list cl (objCs l) Z.toList n i c hcll htkl hin hnc (by rw [objCs_len, hl]) (by simpa using hZ4)
  rw [hcs1, hL2] at hfin
  have q1 : ((i : Int) == (i : Int) + 1) = false := beq_eq_false_iff_ne.2 (by omega)
  have b0 : (0 : Int) ≤ (i : Int) := by omega
  have b1 : (i : Int) ≤ (i : Int) + 1 := by omega
  have b2 : (i : Int) + 1 ≤ (n : Int) := by omega
  have b3 : (n : Int) ≤ (c : Int) := by omega
  have b4 : (0 : Int) ≤ (i : Int) + 1 := by omega
  have e2 : ((i : Int) + 1).toNat = i + 1 := by omega
  have b6 : i ≤ c := by omega
  have b7 : i + 1 ≤ n := by omega
  have HG := Lib.hid (And.intro hap (And.intro r1 (And.intro hfin (And.intro hl2 (And.intro hZ4 (And.intro hl (And.intro hcs1 hcs1l)))))))
  clear hap r1 hfin hl2 hZ4 hl hcs1 hcs1l m1 m4 hW2 hW3 hL2 hZ hZ1 hsrc1 hone1 hcll htkl hg hcs htk hi0 hz0 hz1 hz2 hsz
  by_cases hci : c = i + 1
  · obtain rfl : n = i + 1 := by omega
    subst hci
    have hap0 := HG.out.1 ⟨g, 0, none⟩ (.inl (by rw [HG.out.2.2.2.2.2.2.2]; omega)) 0
    rw [Nat.sub_self, Nat.add_sub_cancel] at hap0
    rw [Nat.add_sub_cancel, Nat.add_sub_cancel_left] at hclr
    have HA := Lib.hid hap0; clear hap0
    go_enter Try.func31, Try.ntmps31
    go_wp2_with fail
    refine wp_region_held_drew (S := (fun w' => True)) (by kernel_rfl) trivial (fun hHeld => ?_)
    refine wpAnyH_take (i := 0) (v := ?_) rfl (by kernel_rfl) (by kernel_rfl) (by kernel_rfl) (fun _ _ _ h => h) (Or.inl ⟨by kernel_rfl, ?_⟩) hHeld ?_
    rotate_left
    · (intro w' hSw; (try dsimp only at hSw); go_simp; try with_reducible rfl)
    simp only [Act.put, List.setIfInBounds_toArray, List.set_cons_zero, List.set_cons_succ, List.getElem_toArray, List.getElem_cons_succ, List.getElem_cons_zero]
    refine wpAnyH_take (i := 1) (v := ?_) rfl (by kernel_rfl) (by kernel_rfl) (by kernel_rfl) (fun _ _ _ h => h) (Or.inl ⟨by kernel_rfl, ?_⟩) hHeld ?_
    rotate_left
    · (intro w' hSw; (try dsimp only at hSw); go_simp; try with_reducible rfl)
    simp only [Act.put, List.setIfInBounds_toArray, List.set_cons_zero, List.set_cons_succ, List.getElem_toArray, List.getElem_cons_succ, List.getElem_cons_zero]
    refine wpAnyH_take (i := 2) (v := ?_) rfl (by kernel_rfl) (by kernel_rfl) (by kernel_rfl) (fun _ _ _ h => h) (Or.inl ⟨by kernel_rfl, ?_⟩) hHeld ?_
    rotate_left
    · (intro w' hSw; (try dsimp only at hSw); go_simp; try with_reducible rfl)
    simp only [Act.put, List.setIfInBounds_toArray, List.set_cons_zero, List.set_cons_succ, List.getElem_toArray, List.getElem_cons_succ, List.getElem_cons_zero]
    refine wpAnyH_take (i := 3) (v := ?_) rfl (by kernel_rfl) (by kernel_rfl) (by kernel_rfl) (fun _ _ _ h => h) (Or.inl ⟨by kernel_rfl, ?_⟩) hHeld ?_
    rotate_left
    · (intro w' hSw; (try dsimp only at hSw); go_simp; try with_reducible rfl)
    simp only [Act.put, List.setIfInBounds_toArray, List.set_cons_zero, List.set_cons_succ, List.getElem_toArray, List.getElem_cons_succ, List.getElem_cons_zero]
    refine wpAnyH_take (i := 4) (v := ?_) rfl (by kernel_rfl) (by kernel_rfl) (by kernel_rfl) (fun _ _ _ h => h) (Or.inl ⟨by kernel_rfl, ?_⟩) hHeld ?_
    rotate_left
    · (intro w' hSw; (try dsimp only at hSw); go_simp; try with_reducible rfl)
    simp only [Act.put, List.setIfInBounds_toArray, List.set_cons_zero, List.set_cons_succ, List.getElem_toArray, List.getElem_cons_succ, List.getElem_cons_zero]
    refine wpAnyH_take (i := 5) (v := ?_) rfl (by kernel_rfl) (by kernel_rfl) (by kernel_rfl) (fun _ _ _ h => h) (Or.inl ⟨by kernel_rfl, ?_⟩) hHeld ?_
    rotate_left
    · (intro w' hSw; (try dsimp only at hSw); go_simp; try with_reducible rfl)
    simp only [Act.put, List.setIfInBounds_toArray, List.set_cons_zero, List.set_cons_succ, List.getElem_toArray, List.getElem_cons_succ, List.getElem_cons_zero]
    refine wpAnyH_ready (rs := [6]) (by kernel_rfl) (by simp) (AllReadyH.cons rfl (fun K hK => ?_) AllReadyH.nil)
    refine step_append_run rfl (.tmp 22) (.tmp 25) 22 22 rfl _ _ (by rfl) (by rfl) _ _ HA.out ?_
    refine hK.out _ _ trivial (fun hHeld => ?_)
    clear hK K
    (try simp only [Act.put, List.setIfInBounds_toArray, List.set_cons_zero, List.set_cons_succ, List.getElem_toArray, List.getElem_cons_succ, List.getElem_cons_zero])
    refine wpAnyH_take (i := 7) (v := ?_) rfl (by kernel_rfl) (by kernel_rfl) (by kernel_rfl) (fun _ _ _ h => h) (Or.inl ⟨by kernel_rfl, ?_⟩) hHeld ?_
    rotate_left
    · (intro w' hSw; (try dsimp only at hSw); go_simp; try with_reducible rfl)
    simp only [Act.put, List.setIfInBounds_toArray, List.set_cons_zero, List.set_cons_succ, List.getElem_toArray, List.getElem_cons_succ, List.getElem_cons_zero]
    refine wpAnyH_done (by kernel_rfl) ?_ _
    have j1 : i ≤ i + 1 := by omega
    have j2 : ((i : Nat) : Int) ≤ ((i + 1 : Nat) : Int) := by omega
    have j3 : (0 : Int) ≤ ((i : Nat) : Int) := by omega
    have j4 : i + 1 - (i) = 1 := by omega
    have j5 : i + 1 ≠ i := by omega
    go_wp2_with fail
    go_ret
    refine ⟨_, rfl, ?_, r4, fun b hb hne => HR5.out b (by rintro rfl; exact hne rfl)⟩
    obtain ⟨-, r1, hfin, hl2, hZ4, hl, hcs1, hcs1l⟩ := HG.out
    rw [Nat.add_sub_cancel] at r1 hfin
    have hlen : (delL l i).length = i := by unfold delL; simp; omega
    rw [hlen]
    refine ⟨by rw [objCs_len, hlen], .inr ⟨g, i + 1, (splice L2 ((i) * 4) Z.toList).toArray, rfl, hbg, r1, by omega, hcap, ?_, ?_⟩⟩
    · rw [List.size_toArray, length_splice _ _ _ (by rw [hl2]; simp [hZ4]; omega), hl2]
    · show List.take ((i) * 4) (splice L2 ((i) * 4) Z.toList) = _
      rw [hfin]
      unfold delL
      rw [objCs_app, ← objCs_take, ← objCs_drop, hcs1]
  · have hci2 : c ≠ i + 1 := hci
    go_enter Try.func31, Try.ntmps31
    go_wp2_with fail
    refine wp_region_held_drew (S := (fun w' => True)) (by kernel_rfl) trivial (fun hHeld => ?_)
    refine wpAnyH_take (i := 0) (v := ?_) rfl (by kernel_rfl) (by kernel_rfl) (by kernel_rfl) (fun _ _ _ h => h) (Or.inl ⟨by kernel_rfl, ?_⟩) hHeld ?_
    rotate_left
    · (intro w' hSw; (try dsimp only at hSw); go_simp; try with_reducible rfl)
    simp only [Act.put, List.setIfInBounds_toArray, List.set_cons_zero, List.set_cons_succ, List.getElem_toArray, List.getElem_cons_succ, List.getElem_cons_zero]
    refine wpAnyH_take (i := 1) (v := ?_) rfl (by kernel_rfl) (by kernel_rfl) (by kernel_rfl) (fun _ _ _ h => h) (Or.inl ⟨by kernel_rfl, ?_⟩) hHeld ?_
    rotate_left
    · (intro w' hSw; (try dsimp only at hSw); go_simp; try with_reducible rfl)
    simp only [Act.put, List.setIfInBounds_toArray, List.set_cons_zero, List.set_cons_succ, List.getElem_toArray, List.getElem_cons_succ, List.getElem_cons_zero]
    refine wpAnyH_take (i := 2) (v := ?_) rfl (by kernel_rfl) (by kernel_rfl) (by kernel_rfl) (fun _ _ _ h => h) (Or.inl ⟨by kernel_rfl, ?_⟩) hHeld ?_
    rotate_left
    · (intro w' hSw; (try dsimp only at hSw); go_simp; try with_reducible rfl)
    simp only [Act.put, List.setIfInBounds_toArray, List.set_cons_zero, List.set_cons_succ, List.getElem_toArray, List.getElem_cons_succ, List.getElem_cons_zero]
    refine wpAnyH_take (i := 3) (v := ?_) rfl (by kernel_rfl) (by kernel_rfl) (by kernel_rfl) (fun _ _ _ h => h) (Or.inl ⟨by kernel_rfl, ?_⟩) hHeld ?_
    rotate_left
    · (intro w' hSw; (try dsimp only at hSw); go_simp; try with_reducible rfl)
    simp only [Act.put, List.setIfInBounds_toArray, List.set_cons_zero, List.set_cons_succ, List.getElem_toArray, List.getElem_cons_succ, List.getElem_cons_zero]
    refine wpAnyH_take (i := 4) (v := ?_) rfl (by kernel_rfl) (by kernel_rfl) (by kernel_rfl) (fun _ _ _ h => h) (Or.inl ⟨by kernel_rfl, ?_⟩) hHeld ?_
    rotate_left
    · (intro w' hSw; (try dsimp only at hSw); go_simp; try with_reducible rfl)
    simp only [Act.put, List.setIfInBounds_toArray, List.set_cons_zero, List.set_cons_succ, List.getElem_toArray, List.getElem_cons_succ, List.getElem_cons_zero]
    refine wpAnyH_take (i := 5) (v := ?_) rfl (by kernel_rfl) (by kernel_rfl) (by kernel_rfl) (fun _ _ _ h => h) (Or.inl ⟨by kernel_rfl, ?_⟩) hHeld ?_
    rotate_left
    · (intro w' hSw; (try dsimp only at hSw); go_simp; try with_reducible rfl)
    simp only [Act.put, List.setIfInBounds_toArray, List.set_cons_zero, List.set_cons_succ, List.getElem_toArray, List.getElem_cons_succ, List.getElem_cons_zero]
    refine wpAnyH_ready (rs := [6]) (by kernel_rfl) (by simp) (AllReadyH.cons rfl (fun K hK => ?_) AllReadyH.nil)
    refine step_append_run rfl (.tmp 22) (.tmp 25) 22 22 rfl _ _ (by rfl) (by rfl) _ _ (HG.out.1 ⟨g, (i + 1) * 4, none⟩ (.inr rfl) (c - (i + 1))) ?_
    refine hK.out _ _ trivial (fun hHeld => ?_)
    clear hK K
    (try simp only [Act.put, List.setIfInBounds_toArray, List.set_cons_zero, List.set_cons_succ, List.getElem_toArray, List.getElem_cons_succ, List.getElem_cons_zero])
    refine wpAnyH_take (i := 7) (v := ?_) rfl (by kernel_rfl) (by kernel_rfl) (by kernel_rfl) (fun _ _ _ h => h) (Or.inl ⟨by kernel_rfl, ?_⟩) hHeld ?_
    rotate_left
    · (intro w' hSw; (try dsimp only at hSw); go_simp; try with_reducible rfl)
    simp only [Act.put, List.setIfInBounds_toArray, List.set_cons_zero, List.set_cons_succ, List.getElem_toArray, List.getElem_cons_succ, List.getElem_cons_zero]
    refine wpAnyH_done (by kernel_rfl) ?_ _
    have j1 : n - 1 ≤ n := by omega
    have j2 : ((n - 1 : Nat) : Int) ≤ (n : Int) := by omega
    have j3 : (0 : Int) ≤ ((n - 1 : Nat) : Int) := by omega
    have j4 : n - (n - 1) = 1 := by omega
    have j5 : c ≠ n - 1 := by omega
    go_wp2_with fail
    go_ret
    refine ⟨_, rfl, ?_, r4, fun b hb hne => HR5.out b (by rintro rfl; exact hne rfl)⟩
    obtain ⟨-, r1, hfin, hl2, hZ4, hl, hcs1, hcs1l⟩ := HG.out
    have hlen : (delL l i).length = n - 1 := by unfold delL; simp; omega
    rw [hlen]
    refine ⟨by rw [objCs_len, hlen], .inr ⟨g, c, (splice L2 ((n - 1) * 4) Z.toList).toArray, rfl, hbg, r1, by omega, hcap, ?_, ?_⟩⟩
    · rw [List.size_toArray, length_splice _ _ _ (by rw [hl2]; simp [hZ4]; omega), hl2]
    · show List.take ((n - 1) * 4) (splice L2 ((n - 1) * 4) Z.toList) = _
      rw [hfin]
      unfold delL
      rw [objCs_app, ← objCs_take, ← objCs_drop, hcs1]
end Go.Proofs.Ytnapokalopcdkaa
