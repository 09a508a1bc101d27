/- hold.refs: the iterator over a root's snapshots, each with whether it may go: its contract. -/
import Derived.RangeFuncNested
import Derived.RangeFuncBound
import Derived.RangeFuncCalls
import Derived.RangeFuncLeaves
import Derived.Shelf.Abstract
import Derived.Shelf.RegionOpen
import Derived.WalkKit
import Derived.OwnWalkIn
import Derived.TacticsInMore
import Derived.LoopNIn
import Derived.LoopIn
import Derived.Test.YteamkiblogbfmaaHoldW3
import Derived.Test.YteamkiblogbfmaaPolWa
namespace Go.Proofs.Yteamkiblogbfmaa
open Go.RowKit Go.Shelf
set_option linter.unusedVariables false
set_option linter.unusedSimpArgs false
attribute [local go_sem] Oper.semAt_some
/-- What a round of the loop keeps: all that lies below n₀, and every row of a type other than two. -/
def KpT (n₀ : Nat) (t1 t2 : TypeId) (W W' : World) : Prop := Below n₀ W W' ∧ ∀ (k : Nat) (cs : Array Value) (t : TypeId) (fr : Nat × Nat), W.heap[k]? = some (.cells cs t fr) → t ≠ t1 → t ≠ t2 → W'.heap[k]? = some (.cells cs t fr)
theorem kpT_t {n₀ : Nat} {t1 t2 : TypeId} {A B C : World} (h : KpT n₀ t1 t2 A B) (k : KpT n₀ t1 t2 B C) : KpT n₀ t1 t2 A C :=
  ⟨h.1.trans k.1, fun i cs t fr hi h1 h2 => k.2 i cs t fr (h.2 i cs t fr hi h1 h2) h1 h2⟩
theorem kpT_b {n₀ : Nat} {t1 t2 : TypeId} {w : World} (hn : n₀ ≤ w.heap.size) (W : World) (l : Nat) (o o' : Obj) (hl : w.heap.size ≤ l) (h : W.heap[l]? = some o) (hc : o.isCells = false) (hw : o.isWalk = false) : KpT n₀ t1 t2 W (W.putObj l o') :=
  ⟨belowK_b hn W l o o' hl h hc hw, fun k cs t fr hk _ _ => by
    have hne : k ≠ l := by
      rintro rfl
      rw [h] at hk
      injection hk with hk
      subst hk
      cases hc
    exact (World.putObj_heap_other hne).trans hk⟩
/-- What the iterator hands on. -/
def prs (R : Pl.Rt) : List (Pl.Rf × Bool) := R.l.map fun x => (x, !keepF R.p R.l R.now x)
theorem prs_len (R : Pl.Rt) : (prs R).length = R.l.length := by simp [prs]
theorem prs_take (R : Pl.Rt) (j : Nat) (hj : j < R.l.length) : (prs R).take (j + 1) = (prs R).take j ++ [(R.l.getD j default, !keepF R.p R.l R.now (R.l.getD j default))] := by
  rw [List.take_succ_eq_append_getElem (by rw [prs_len]; exact hj)]
  simp [prs, List.getD_eq_getElem?_getD, hj]
def encP (x : Pl.Rf × Bool) : Array Value := #[rfV x.1, .bool x.2]
theorem keepD_get (p : Pl.Pol) (l : List Pl.Rf) (now : Int) (j : Nat) (hj : j < l.length) : (Pl.keepD p l now).getD j false = keepF p l now (l.getD j default) := by
  rw [keepD_map]
  simp [List.getD_eq_getElem?_getD, hj]
set_option maxRecDepth 100000 in
set_option maxHeartbeats 4000000 in
theorem refs1_in (n : Nat) (hn : 1 ≤ n) (l B n₀ : Nat) (R : Pl.Rt) (A : Option Addr) (c : Nat) (p ch : Value) (hl60 : R.l.length ≤ 60) (hok : RtOk R) (J Jx : List (Pl.Rf × Bool) → World → Prop) (W : World)
    (hJ : AbidesFrom W.heap.size J)
    (hY : ∀ pre x W1, J pre W1 → pre.length < R.l.length → YieldAt Fence.wide (n - 1) Try.prog l (encP x) W1 fun e W' =>
      (e = .returned (.bool true) ∧ J (pre ++ [x]) W' ∧ KpT n₀ 38 22 W1 W') ∨ (e = .returned (.bool false) ∧ Jx (pre ++ [x]) W'))
    (hB : W.heap[B]? = some (.cells #[.int .i64 R.n, .int .i64 R.now, .slice A R.l.length c, p, .int .i64 R.p.d, .int .i64 R.p.w, .int .i64 R.p.mo, .int .i64 R.p.y, ch] 28 (0, 0)))
    (hr : ∀ W', Below n₀ W W' → Rd W' 5 A R.l.length (rfCs R.l)) (hn0 : n₀ ≤ W.heap.size) (h0 : J [] W) :
    CallsIn Fence.wide n Try.prog 40 #[.func (.yield l) #[] #[], .pointer (some ⟨B, 0, none⟩)] W fun e W' => (∃ v, e = .returned v) ∧
      ((∃ ys, ys = prs R ∧ J ys W') ∨ (∃ pre, pre <+: prs R ∧ Jx pre W')) := by
  have hkeep := keep_any R.p A R.l.length c R.l R.now W rfl (by omega) (hr W (Below.refl _ _)) (fun x hx => (hok.fit x hx).1)
  have x1 : W.cell? ⟨B, 1, none⟩ = some (.int .i64 R.now) := cell_row W _ 1 _ _ hB
  have x2 : W.cell? ⟨B, 2, none⟩ = some (.slice A R.l.length c) := cell_row W _ 2 _ _ hB
  have x4 : W.cell? ⟨B, 4, none⟩ = some (.int .i64 R.p.d) := cell_row W _ 4 _ _ hB
  have x5 : W.cell? ⟨B, 5, none⟩ = some (.int .i64 R.p.w) := cell_row W _ 5 _ _ hB
  have x6 : W.cell? ⟨B, 6, none⟩ = some (.int .i64 R.p.mo) := cell_row W _ 6 _ _ hB
  have x7 : W.cell? ⟨B, 7, none⟩ = some (.int .i64 R.p.y) := cell_row W _ 7 _ _ hB
  have hBl := blk_lt hB
  refine callsIn_of_wp Try.func40 rfl trivial ?_ rfl
  simp only [Try.ntmps40, List.size_toArray, List.length_cons, List.length_nil, Nat.reduceAdd, Nat.reduceSub, Array.replicate_succ, Array.replicate_zero, List.push_toArray, List.append_toArray, List.nil_append, List.cons_append]
  gi_wp2
  refine ⟨trivial, (callsIn_wide.2 hkeep).mono ?_⟩
  rintro e W1 ⟨v, rfl, ⟨bk, rfl, hbk, hk⟩, hb1⟩
  have hK : KpT n₀ 38 22 W W1 := ⟨hb1.mono hn0, fun i cs t fr hi _ _ => (hb1.block i (blk_lt hi)).trans hi⟩
  have hJ1 : J ((prs R).take 0) W1 := hJ [] W W1 none h0 ⟨hb1.os, hb1.tape, hb1.output, hb1.size, fun i hi _ => hb1.block i hi⟩ (fun r e => by cases e)
  have hB1 := (hb1.block _ hBl).trans hB
  obtain ⟨N, hN⟩ : ∃ N, N = R.l.length := ⟨_, rfl⟩
  have HH := Lib.hid (And.intro hr (And.intro hY (And.intro hK (And.intro hB1 (And.intro hk hN)))))
  clear hr hY hK hB1 hk hkeep x1 x2 x4 x5 x6 x7 hB hJ h0 hb1
  rw [← hN] at hl60 ⊢
  clear hN
  gi_wp2
  gi_loopw [13] (fun i wr => ∃ j : Nat, j ≤ N ∧ i = .int .i64 j ∧ J ((prs R).take j) wr ∧ KpT n₀ 38 22 W1 wr) (fun i _ => N - (intOf i).toNat)
  case atStart => exact ⟨0, Nat.zero_le _, rfl, hJ1, ⟨Below.refl _ _, fun _ _ _ _ h _ _ => h⟩⟩
  case round =>
    clear hJ1
    obtain ⟨j, hj, rfl, hJs, hKs⟩ := hrel
    by_cases hlt : j < N
    · have hjl : j < R.l.length := by rw [← HH.out.2.2.2.2.2]; exact hlt
      have hr := HH.out.1 wr (HH.out.2.2.1.1.trans hKs.1)
      obtain ⟨b, off, rfl, hbw, hrf⟩ := hr.rf rfl hjl
      obtain ⟨y, hy0⟩ : ∃ y, R.l.getD j default = y := ⟨_, rfl⟩
      obtain ⟨c0, c1, c2, c3, c4⟩ := hrf y hy0
      have hbx := hKs.2 _ _ _ _ HH.out.2.2.2.1 (by decide) (by decide)
      have hbb := hKs.2 _ _ _ _ HH.out.2.2.2.2.1 (by decide) (by decide)
      have x2 : wr.cell? ⟨B, 2, none⟩ = some (.slice (some ⟨b, off, none⟩) N c) := by rw [HH.out.2.2.2.2.2]; exact cell_row wr _ 2 _ _ hbx
      have xk : wr.cell? ⟨bk, j, none⟩ = some (.bool (keepF R.p R.l R.now y)) := by
        rw [cell_row wr bk j _ _ hbb, bools_get _ _ (by rw [Pl.keepD_len]; exact hjl), keepD_get _ _ _ _ hjl, hy0]
      obtain ⟨q, hq⟩ : ∃ q, keepF R.p R.l R.now y = q := ⟨_, rfl⟩
      rw [hq] at xk
      obtain ⟨fn, tmps, assign, body, hy, hR⟩ := HH.out.2.1 _ (y, !q) wr hJs (by rw [List.length_take, prs_len]; omega)
      have htk := prs_take R j hjl
      rw [hy0, hq] at htk
      obtain ⟨ym, yn, yt, ynm, ytil⟩ := y
      dsimp only [encP, rfV, rfC] at hy
      simp only at c0 c1 c2 c3 c4
      have j0 : (0 : Int) ≤ (j : Int) := by omega
      have j1 : (j : Int) < (N : Int) := by omega
      have HQ := Lib.hid (And.intro htk (And.intro hKs (And.intro hq hy0))); clear htk hKs hq hy0 hrf hr hbx hbb
      gi_wp2
      refine hR.mono ?_
      rintro e W3 (⟨rfl, hJ3, hk3⟩ | ⟨rfl, hJx3⟩)
      · gi_wp2
        go_roundw
        case rel => exact ⟨j + 1, by omega, by simp, by rw [HQ.out.1]; exact hJ3, kpT_t HQ.out.2.1 hk3⟩
        case measure => simp [intOf]; omega
      · gi_wp2
        refine bodyPost_ret (results_none rfl _ _ _) rfl ?_
        exact ⟨⟨_, rfl⟩, .inr ⟨_, by rw [← HQ.out.1]; exact List.take_prefix _ _, hJx3⟩⟩
    · obtain rfl : j = N := by omega
      gi_wp2
      go_end0
      exact ⟨⟨_, rfl⟩, .inl ⟨_, rfl, by rw [List.take_of_length_le (by rw [prs_len, ← HH.out.2.2.2.2.2]; exact Nat.le_refl _)] at hJs; exact hJs⟩⟩
theorem refs_stops (n : Nat) (hn : 1 ≤ n) (B n₀ : Nat) (R : Pl.Rt) (A : Option Addr) (c : Nat) (p ch : Value) (hl60 : R.l.length ≤ 60) (hok : RtOk R) (w : World)
    (hB : w.heap[B]? = some (.cells #[.int .i64 R.n, .int .i64 R.now, .slice A R.l.length c, p, .int .i64 R.p.d, .int .i64 R.p.w, .int .i64 R.p.mo, .int .i64 R.p.y, ch] 28 (0, 0)))
    (hr : ∀ W', Below n₀ w W' → Rd W' 5 A R.l.length (rfCs R.l)) (hn0 : n₀ ≤ w.heap.size) :
    SeqStopsK Fence.wide n Try.prog 40 #[.pointer (some ⟨B, 0, none⟩)] encP (KpT n₀ 38 22) (fun ys => ys = prs R) (fun pre => pre <+: prs R) R.l.length w := fun l J Jx W hW hJ _ hY h0 => by
  exact refs1_in n hn l B n₀ R A c p ch hl60 hok J Jx W hJ hY ((hW.block _ (blk_lt hB)).trans hB) (fun W' hb => hr W' ((hW.mono hn0).trans hb)) (Nat.le_trans hn0 hW.size) h0
set_option maxRecDepth 100000 in
theorem refs_any (R : Pl.Rt) (s p c : Value) (w : World) : Calls Try.prog 25 #[rtV R s p c] w (fun e w' => e = .returned (.func (.func 40) #[] #[.pointer (some ⟨w.heap.size, 0, none⟩)]) ∧ w' = w.alloc (.cells #[.int .i64 R.n, .int .i64 R.now, s, p, .int .i64 R.p.d, .int .i64 R.p.w, .int .i64 R.p.mo, .int .i64 R.p.y, c] 28)) := by
  unfold rtV
  go_enter Try.func25, Try.ntmps25
  go_wp2_with fail
  go_ret
  exact ⟨rfl, rfl⟩
end Go.Proofs.Yteamkiblogbfmaa
