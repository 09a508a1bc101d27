/- How a message lies in memory; the walks of the document's Great, of wire's loneOf. -/
import Derived.Test.YtadoplgmeoghmaaDoorMf4W
import Derived.Test.YtadoplgmeoghmaaDoorMfByW
import Derived.Test.YtadoplgmeoghmaaDoorMfPl2
namespace Go.Proofs.YtadoplgmeoghmaaDoor
open Go.RowKit
set_option linter.unusedVariables false
set_option linter.unusedSimpArgs false
attribute [local go_sem] ba_get ba_cut ba_add
def mgL (m : Pl.Msg) (X : Cx) : List Value := [.int .i64 m.k, .string ⟨m.data.toArray⟩] ++ (snL m.snap X ++ [.int .i64 m.n, .int .i64 m.why])
structure MgFit (m : Pl.Msg) : Prop where
  data : m.data.length ≤ 140737488355328
  snap : SnFit m.snap
theorem mgL_len {w : World} {m : Pl.Msg} {X : Cx} (h : SnOk w m.snap X) : (mgL m X).length = 45 := by simp [mgL, snL_len h]
theorem info_msg : (Tryd.prog.info? 34).map (·.size) = some 45 := by kernel_rfl
theorem info_mg {w : World} {m : Pl.Msg} {X : Cx} (h : SnOk w m.snap X) : (Tryd.prog.info? 34).map (·.size) = some (mgL m X).length := by rw [mgL_len h]; exact info_msg
/-- A message's cells, from a block's head. -/
structure Mg (w : World) (B : Nat) (m : Pl.Msg) (X : Cx) : Prop where
  all : w.rangeAt B 0 (mgL m X)
  k : w.cell? ⟨B, 0, none⟩ = some (.int .i64 m.k)
  data : w.cell? ⟨B, 1, none⟩ = some (.string ⟨m.data.toArray⟩)
  c0 : w.cell? ⟨B, 2, none⟩ = some (.string ⟨m.snap.m.toArray⟩)
  c1 : w.cell? ⟨B, 3, none⟩ = some (.int .i64 m.snap.n)
  c2 : w.cell? ⟨B, 4, none⟩ = some (.int .i64 m.snap.at_)
  c3 : w.cell? ⟨B, 5, none⟩ = some (.int .u64 m.snap.clock)
  c4 : w.cell? ⟨B, 6, none⟩ = some (.int .i64 m.snap.pages)
  c5 : w.cell? ⟨B, 7, none⟩ = some (.int .i64 m.snap.blocks)
  c6 : w.cell? ⟨B, 8, none⟩ = some (.slice X.A0 X.n0 X.k0)
  c7 : w.cell? ⟨B, 9, none⟩ = some (.slice X.A1 X.n1 X.k1)
  c8 : w.cell? ⟨B, 10, none⟩ = some (.slice X.A2 X.n2 X.k2)
  snap : w.rangeAt B 2 (snL m.snap X)
  sum : w.rangeAt B 11 (byC m.snap.sum)
  n : w.cell? ⟨B, 43, none⟩ = some (.int .i64 m.n)
  why : w.cell? ⟨B, 44, none⟩ = some (.int .i64 m.why)
theorem mg_of {w : World} {B : Nat} {m : Pl.Msg} {X : Cx} (hs : m.snap.sum.length = 32) (h : w.rangeAt B 0 (mgL m X)) : Mg w B m X := by
  have g : ∀ j v, (mgL m X)[j]? = some v → w.cell? ⟨B, j, none⟩ = some v := fun j v hv => by have := h j v hv; rwa [Nat.zero_add] at this
  have hl : (snL m.snap X).length = 41 := by simp [snL, byC_len, hs]
  have gs : ∀ j v, (snL m.snap X)[j]? = some v → w.cell? ⟨B, 2 + j, none⟩ = some v := fun j v hv => g (2 + j) v (by
    have hj : j < 41 := by
      rcases Nat.lt_or_ge j 41 with h1 | h1
      · exact h1
      · rw [List.getElem?_eq_none (by omega)] at hv; cases hv
    unfold mgL
    rw [List.getElem?_append_right (by simp), List.getElem?_append_left (by simp; omega)]
    simpa using hv)
  have g43 : (mgL m X)[43]? = some (.int .i64 m.n) := by
    unfold mgL
    rw [List.getElem?_append_right (by simp), List.getElem?_append_right (by simp [hl])]
    simp [hl]
  have g44 : (mgL m X)[44]? = some (.int .i64 m.why) := by
    unfold mgL
    rw [List.getElem?_append_right (by simp), List.getElem?_append_right (by simp [hl])]
    simp [hl]
  exact ⟨h, g 0 _ rfl, g 1 _ rfl, gs 0 _ rfl, gs 1 _ rfl, gs 2 _ rfl, gs 3 _ rfl, gs 4 _ rfl, gs 5 _ rfl, gs 6 _ rfl, gs 7 _ rfl, gs 8 _ rfl, gs, fun j v hv => by
    have := gs (9 + j) v (by simpa [snL, Nat.add_comm] using hv)
    rwa [show 2 + (9 + j) = 11 + j by omega] at this, g 43 _ g43, g 44 _ g44⟩
theorem mg_row {w : World} {B : Nat} {m : Pl.Msg} {X : Cx} {t : TypeId} (hs : m.snap.sum.length = 32) (h : w.heap[B]? = some (.cells (mgL m X).toArray t (0, 0))) : Mg w B m X := mg_of hs (range_row h)
theorem Mg.keep {w w' : World} {B B' : Nat} {m : Pl.Msg} {X : Cx} (h : Mg w B m X) (hs : m.snap.sum.length = 32) (hB : B < B') (hb : Below B' w w') : Mg w' B m X :=
  mg_of hs fun j v hv => (hb.cell (p := ⟨B, 0 + j, none⟩) hB).trans (h.all j v hv)
theorem mg_three {V : World} {B : Nat} {m : Pl.Msg} {X : Cx} (hx : Mg V B m X) {k : Nat} (hk : k < 3) : ∃ A n c, V.cell? ⟨B, 8 + k, none⟩ = some (.slice A n c) ∧ (∀ w, SnOk w m.snap X → SlAt w 1 A n c (strs (Pl.ck m.snap k))) := by
  obtain rfl | rfl | rfl : k = 0 ∨ k = 1 ∨ k = 2 := by omega
  · exact ⟨_, _, _, hx.c6, fun w h => h.s0⟩
  · exact ⟨_, _, _, hx.c7, fun w h => h.s1⟩
  · exact ⟨_, _, _, hx.c8, fun w h => h.s2⟩
set_option maxRecDepth 100000 in
set_option maxHeartbeats 4000000 in
theorem great44_any (m : Pl.Msg) (X : Cx) (w : World) (hok : SnOk w m.snap X) (hfit : MgFit m) : Calls Tryd.prog 4 #[.agg (mgL m X).toArray] w (RetB (fun v _ => v = .int .i64 0 ∨ v = .int .i64 1) w) := by
  have hdl := hfit.data
  have hml := hfit.snap.m
  have HF := Lib.hid hfit
  have HSM := Lib.hid hok.sum
  obtain ⟨LS, hLS⟩ : ∃ L, mgL m X = L := ⟨_, rfl⟩
  rw [hLS]
  go_enter Tryd.func4, Tryd.ntmps4
  go_upto_region 1 with (fail)
  generalize hV : w.alloc _ = V
  have hx : Mg V w.heap.size m X := by rw [← hV, ← hLS]; exact mg_row HSM.out (heap_alloc_new w _)
  have hbV : Below w.heap.size w V := by rw [← hV]; exact (Below.refl _ _).alloc (Nat.le_refl _) _
  replace hok := hok.below hbV
  clear hV hLS hfit
  have HX := Lib.hid hx
  obtain ⟨-, -, c1, c2, -, -, -, -, -, -, -, -, -, -, -, -⟩ := hx
  go_wp2_with fail
  clear c1 c2
  go_loop [3, 4] (fun v i => ∃ (k : Nat) (q : Nat), k ≤ 3 ∧ i = .int .i64 (k : Nat) ∧ v = .int .i64 (q : Nat) ∧ q ≤ 281474976710656 + k * 1407374883553280) (fun _ i => 3 - (intOf i).toNat)
  case atStart => exact ⟨0, m.data.length + m.snap.m.length, by omega, rfl, by go_num, by omega⟩
  case round =>
    obtain ⟨k, q, hk, rfl, rfl, hq⟩ := hrel
    by_cases hk3 : k < 3
    · obtain ⟨A, n, c, hc, hs⟩ := mg_three HX.out hk3
      have hr : Rd V 1 A n (strs (Pl.ck m.snap k)) := (hs V hok).1
      have hfit := ck_fit HF.out.snap k
      have hnl : (Pl.ck m.snap k).length = n := by have := hr.len1; rwa [strs_len] at this
      obtain ⟨L, hL⟩ : ∃ L, Pl.ck m.snap k = L := ⟨_, rfl⟩
      rw [hL] at hfit hnl hr
      have HL := Lib.hid (And.intro hfit hnl); clear hfit hnl hL hs
      have hn : n ≤ 140737488355328 := by rw [← HL.out.2]; exact HL.out.1.1
      have hj1 : (0 : Int) ≤ (k : Int) := by omega
      have hj2 : (k : Int) < 3 := by omega
      go_wp2_with fail
      go_loop [24] (fun i => ∃ (j : Nat), j ≤ n ∧ i = .int .i64 (j : Nat)) (fun i => n - (intOf i).toNat)
      case atStart => exact ⟨0, by omega, rfl⟩
      case round =>
        obtain ⟨j, hj, rfl⟩ := hrel
        by_cases hjn : j < n
        · have hjl : j < L.length := by rw [HL.out.2]; exact hjn
          obtain ⟨b1, o1, rfl, -, hc1⟩ := hr.at1 hjn
          rw [strs_get L j hjl] at hc1
          have hxl := HL.out.1.2 _ (List.getElem_mem hjl)
          obtain ⟨x, hx⟩ : ∃ x, L[j] = x := ⟨_, rfl⟩
          rw [hx] at hc1 hxl
          clear hx
          have hi1 : (0 : Int) ≤ (j : Int) := by omega
          have hi2 : (j : Int) < (n : Int) := by omega
          by_cases hgt : 200 < x.length
          · have hd : decide ((200 : Int) < (x.length : Int)) = true := decide_eq_true (by omega)
            go_wp2_with fail
            go_ret
            exact ⟨_, rfl, .inr rfl, hbV⟩
          · have hd : decide ((200 : Int) < (x.length : Int)) = false := decide_eq_false (by omega)
            go_wp2_with fail
            go_round
            case rel => exact ⟨j + 1, by omega, by go_num⟩
            case measure => simp [intOf]; omega
        · obtain rfl : n = j := by omega
          go_wp2_with fail
          go_round
          case rel => exact ⟨k + 1, q + 10 * n, by omega, by go_num, by go_num, by omega⟩
          case measure => simp [intOf]; omega
    · obtain rfl : k = 3 := by omega
      by_cases hg : 1000 < q
      · have hd : decide ((1000 : Int) < (q : Int)) = true := decide_eq_true (by omega)
        go_wp2_with fail
        go_ret
        exact ⟨_, rfl, .inr rfl, hbV⟩
      · have hd : decide ((1000 : Int) < (q : Int)) = false := decide_eq_false (by omega)
        go_wp2_with fail
        go_ret
        exact ⟨_, rfl, .inl rfl, hbV⟩
theorem results_cell {fn : Func} {tmps : Array Value} {w : World} {a B : Nat} {T : TypeId} {cs : List Value} {d : TypeDesc} (hf : fn.results = #[.cell a T]) (ha : tmps[a]?.getD undef = .pointer (some ⟨B, 0, none⟩)) (hc : w.rangeAt B 0 cs) (hu : Tryd.prog.underlying T = some d) (hd : d.isRow = true) (hi : (Tryd.prog.info? T).map (·.size) = some cs.length) :
    (results fn tmps).run Tryd.prog w = .ok (.agg cs.toArray) w := by
  have h := run_loadVar_mid (P := Tryd.prog) w B 0 T cs d hc hu hd hi
  simp [results, hf, ha, asAddr, h, Sem.run_bind]
theorem results_cell2 {fn : Func} {tmps : Array Value} {w : World} {a b B : Nat} {T : TypeId} {cs : List Value} {d : TypeDesc} (hf : fn.results = #[.cell a T, .tmp b]) (ha : tmps[a]?.getD undef = .pointer (some ⟨B, 0, none⟩)) (hc : w.rangeAt B 0 cs) (hu : Tryd.prog.underlying T = some d) (hd : d.isRow = true) (hi : (Tryd.prog.info? T).map (·.size) = some cs.length) :
    (results fn tmps).run Tryd.prog w = .ok (.tuple #[.agg cs.toArray, tmps.getD b undef]) w := by
  have h := run_loadVar_mid (P := Tryd.prog) w B 0 T cs d hc hu hd hi
  simp [results, hf, ha, asAddr, h, Sem.run_bind]
def loneL (m : Pl.Msg) : List Value := [.string ⟨m.data.toArray⟩, .string ⟨m.snap.m.toArray⟩, .int .i64 m.snap.n, .int .i64 m.snap.at_, .int .u64 m.snap.clock, .int .i64 m.snap.pages, .int .i64 m.snap.blocks, .int .i64 m.n, .int .i64 m.why]
theorem info_lone : (Tryd.prog.info? 113).map (·.size) = some 9 := by kernel_rfl
theorem lone_one (m : Pl.Msg) : (loneL m).toArray.all (·.oneCell') = true := all_oneCell_toArray fun v hv => by
  simp only [loneL, List.mem_cons, List.not_mem_nil, or_false] at hv
  rcases hv with rfl | rfl | rfl | rfl | rfl | rfl | rfl | rfl | rfl <;> rfl
set_option maxRecDepth 100000 in
set_option maxHeartbeats 4000000 in
theorem loneOf_any (m : Pl.Msg) (X : Cx) (w : World) (hok : SnOk w m.snap X) : Calls Tryd.prog 55 #[.agg (mgL m X).toArray] w (RetB (fun v _ => v = .agg (loneL m).toArray) w) := by
  have HSM := Lib.hid hok.sum
  obtain ⟨LS, hLS⟩ : ∃ L, mgL m X = L := ⟨_, rfl⟩
  rw [hLS]
  have hlone : (loneL m).toArray.size = 9 := rfl
  obtain ⟨L9, hL9⟩ : ∃ L, loneL m = L := ⟨_, rfl⟩
  have hl9 : L9.length = 9 := by rw [← hL9]; rfl
  have ho9 : L9.toArray.all (·.oneCell') = true := by rw [← hL9]; exact lone_one m
  have HL9 := Lib.hid (And.intro hL9 (And.intro hl9 ho9)); clear hL9 hl9 ho9 hlone
  go_enter Tryd.func55, Tryd.ntmps55
  go_upto_region 1 with (fail)
  generalize hV : (w.alloc _).alloc _ = V
  have hx : Mg V w.heap.size m X := by
    have h1 : Mg (w.alloc (.cells LS.toArray 34)) w.heap.size m X := by rw [← hLS]; exact mg_row HSM.out (heap_alloc_new w _)
    rw [← hV]
    exact h1.keep HSM.out (B' := w.heap.size + 1) (by omega) ((Below.refl _ _).alloc (by simp) _)
  have hD : ∃ C : Array Value, C.size = 9 ∧ V.heap[w.heap.size + 1]? = some (.cells C 113 (0, 0)) := by
    refine ⟨_, ?_, by rw [← hV]; exact heap_alloc_2 w _ _⟩
    rfl
  obtain ⟨C, hC, hD⟩ := hD
  have hbV : Below w.heap.size w V := by rw [← hV]; exact ((Below.refl _ _).alloc (Nat.le_refl _) _).alloc (by simp) _
  clear hV hLS
  have hth : V.there (w.heap.size + 1) 0 L9.toArray.size := there_row hD (by rw [hC, List.size_toArray, HL9.out.2.1]; exact Nat.le_refl _)
  have hinf : (Tryd.prog.info? 113).map (·.size) = some L9.toArray.size := by rw [List.size_toArray, HL9.out.2.1]; exact info_lone
  obtain ⟨-, c0, c1, c2, c3, c4, c5, c6, c7, -, -, -, -, -, c8, c9⟩ := hx
  go_wp2_with (with_reducible refine wpList_store_mid rfl 113 _ _ rfl (w.heap.size + 1) 0 L9.toArray rfl (by rw [← HL9.out.1]; with_unfolding_all rfl) hth hinf HL9.out.2.2 ?_)
  refine bodyPost_ret (results_cell (cs := L9) rfl rfl (World.rangeAt_setCells_same _ _ _ _ (by simpa using hth)) Tryd.underlying113 rfl (by rw [HL9.out.2.1]; exact info_lone)) rfl ?_
  exact ⟨_, rfl, by rw [← HL9.out.1], hbV.trans (Lib.below_setCells_w (by omega) _ _ _)⟩
end Go.Proofs.YtadoplgmeoghmaaDoor
