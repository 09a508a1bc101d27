/- The walk of hold.Gone: the snapshots that may go. -/
import Derived.Maps.AppendAt
import Derived.Test.YteamkiblogbfmaaHoldW6
namespace Go.Proofs.Yteamkiblogbfmaa
open Go.RowKit Go.Shelf
set_option linter.unusedVariables false
set_option linter.unusedSimpArgs false
attribute [local go_sem] Oper.semAt_some
/-- Those that go (b), or stay. -/
def sel (b : Bool) (l : List (Pl.Rf × Bool)) : List Pl.Rf := (l.filter fun x => x.2 == b).map (·.1)
theorem sel_hit (b : Bool) (l : List (Pl.Rf × Bool)) (x : Pl.Rf × Bool) (h : x.2 = b) : sel b (l ++ [x]) = sel b l ++ [x.1] := by simp [sel, h]
theorem sel_miss (b : Bool) (l : List (Pl.Rf × Bool)) (x : Pl.Rf × Bool) (h : ¬ x.2 = b) : sel b (l ++ [x]) = sel b l := by simp [sel, h]
theorem sel_len (b : Bool) (l : List (Pl.Rf × Bool)) : (sel b l).length ≤ l.length := by
  unfold sel; rw [List.length_map]; exact List.length_filter_le _ _
/-- A row of snapshots of the call's own. -/
def RefsOut (B : Nat) (l : List Pl.Rf) (v : Value) (w' : World) : Prop := w'.ownsRow B 38 5 v l.length (rfCs l)
/-- A variable's box that holds a row of the call's own. -/
theorem rowBox_own (b : Bool) (n₀ B : Nat) : Own (fun (s : List (Pl.Rf × Bool)) W => ∃ v, Boxed W B 22 v ∧ W.ownsRow n₀ 38 5 v (sel b s).length (rfCs (sel b s))) := by
  rintro s X Y row ⟨v, hv, hr⟩ hg hrow
  refine ⟨v, hv.kept hg (fun e' => ?_), hr.kept hg ?_⟩
  · obtain ⟨o, ho, hc⟩ := hrow B e'.symm
    rw [show X.heap[B]? = _ from hv] at ho; cases ho; cases hc
  · rcases hr.2 with ⟨rfl, _⟩ | ⟨g, cap, cur, rfl, _, hgb, _⟩
    · exact .inl rfl
    · refine .inr fun e' => ?_
      obtain ⟨o, ho, hc⟩ := hrow g (by simpa [Value.ownBlock] using e'.symm)
      rw [hgb] at ho; cases ho; cases hc
/-- A snapshot's box. -/
def RfBox (W : World) (B : Nat) (x : Pl.Rf) : Prop := W.heap[B]? = some (.cells (rfC x).toArray 38 (0, 0))
theorem kpT_alloc {n₀ : Nat} {t1 t2 : TypeId} {W : World} (hn : n₀ ≤ W.heap.size) (o : Obj) : KpT n₀ t1 t2 W (W.alloc o) :=
  ⟨(Below.refl _ _).alloc hn o, fun k cs t fr hk _ _ => (Below.heap_alloc _ _ _ (blk_lt hk)).trans hk⟩
theorem kpT_app {W w1 : World} {n₀ lb : Nat} {v v' : Value} {k : Nat} {xs : List Value} {tmp : Obj} (hv : Boxed W lb 22 v) (hrow : W.ownsRow n₀ 38 5 v k xs) (hgrow : (W.alloc tmp).grownBy w1 v.ownBlock) (hb2 : Below n₀ W (w1.setCell ⟨lb, 0, none⟩ v')) : KpT n₀ 38 22 W (w1.setCell ⟨lb, 0, none⟩ v') := by
  refine ⟨hb2, fun i cs t fr hi h1 h2 => ?_⟩
  have hil := blk_lt hi
  have hne : i ≠ lb := by
    rintro rfl
    rw [show W.heap[i]? = _ from hv] at hi
    injection hi with hi
    injection hi with _ hi
    exact h2 hi.symm
  rw [Below.heap_setCell _ _ _ i hne]
  have hne2 : some i ≠ v.ownBlock := by
    intro e
    rcases hrow.2 with ⟨rfl, -⟩ | ⟨g, cap, cur, rfl, -, hg, -⟩
    · simp [Value.ownBlock] at e
    · simp [Value.ownBlock] at e
      subst e
      rw [hg] at hi
      injection hi with hi
      injection hi with _ hi
      exact h1 hi.symm
  rw [hgrow.block i (by simp; omega) hne2]
  exact (Below.heap_alloc _ _ _ hil).trans hi
theorem five_cells (W : World) (x : Pl.Rf) : ∀ j u, (rfC x)[j]? = some u → (W.alloc (.cells (rfC x).toArray 38)).cell? ((⟨W.heap.size, 0, none⟩ : Addr).add j) = some u := by
  intro j u hj
  rw [addr_add, Nat.zero_add, cell_row _ _ j _ _ (heap_alloc_new W _)]
  simpa using hj
theorem rfC_one (x : Pl.Rf) : ∀ u ∈ rfC x, u.oneCell' = true := by
  intro u hu
  simp only [rfC, List.mem_cons, List.not_mem_nil, or_false] at hu
  rcases hu with rfl | rfl | rfl | rfl | rfl <;> rfl
set_option maxRecDepth 100000 in
set_option maxHeartbeats 4000000 in
theorem gone_any (R : Pl.Rt) (s p c : Value) (w : World) (hl60 : R.l.length ≤ 60) (hok : RtOk R) (h : RtAt w R s p c) : Calls Try.prog 16 #[rtV R s p c] w (RetB (RefsOut w.heap.size (sel true (prs R))) w) := by
  obtain ⟨i0, hi, hz0, hz1, hz2⟩ := info_parts info_rf
  obtain ⟨A, k, rfl, hr, -⟩ := h.s
  have hrefs := fun W => refs_any R (.slice A R.l.length k) p c W
  have HI := Lib.hid (And.intro hi (And.intro hz0 (And.intro hz1 hz2))); clear hi hz0 hz1 hz2
  have HH := Lib.hid (And.intro hr hok); clear hr hok h
  unfold rtV at hrefs ⊢
  refine (callsIn_wide (n := 3)).1 ?_
  refine callsIn_of_wp_marks Try.func16 rfl trivial ?_ rfl
  simp only [Try.ntmps16, List.size_toArray, List.length_cons, List.length_nil, Nat.reduceAdd, Nat.reduceSub, Array.replicate_succ, Array.replicate_zero, List.push_toArray, List.append_toArray, List.nil_append, List.cons_append]
  gi_wp2_with (refine ⟨trivial, ?_⟩; gi_at_call 25; refine (callsIn_wide.2 (hrefs _)).mono ?_; rintro e w' ⟨rfl, rfl⟩)
  have bL0 := Boxed.new (w.alloc (.cells #[.int .i64 R.n, .int .i64 R.now, .slice A R.l.length k, p, .int .i64 R.p.d, .int .i64 R.p.w, .int .i64 R.p.mo, .int .i64 R.p.y, c] 28)) 22 (.slice none 0 0)
  rw [World.size_alloc] at bL0
  generalize hW0 : World.alloc (World.alloc (World.alloc w _) _) _ = W0
  have bL : Boxed W0 (w.heap.size + 1) 22 (.slice none 0 0) := by rw [← hW0]; exact bL0.alloc _
  have hB0 : Below w.heap.size w W0 := by rw [← hW0]; exact (((Below.refl _ w).alloc (Nat.le_refl _) _).alloc (by simp) _).alloc (by simp; omega) _
  have hsz : W0.heap.size = w.heap.size + 3 := by rw [← hW0]; simp
  have hx : W0.heap[w.heap.size + 2]? = some (.cells #[.int .i64 R.n, .int .i64 R.now, .slice A R.l.length k, p, .int .i64 R.p.d, .int .i64 R.p.w, .int .i64 R.p.mo, .int .i64 R.p.y, c] 28 (0, 0)) := by
    rw [← hW0]
    have := heap_alloc_new ((w.alloc (.cells #[.int .i64 R.n, .int .i64 R.now, .slice A R.l.length k, p, .int .i64 R.p.d, .int .i64 R.p.w, .int .i64 R.p.mo, .int .i64 R.p.y, c] 28)).alloc (.cells #[.slice none 0 0] 22)) (.cells #[.int .i64 R.n, .int .i64 R.now, .slice A R.l.length k, p, .int .i64 R.p.d, .int .i64 R.p.w, .int .i64 R.p.mo, .int .i64 R.p.y, c] 28)
    simpa using this
  clear hW0 bL0
  have hst := refs_stops 2 (by omega) (w.heap.size + 2) w.heap.size R A k p c hl60 HH.out.2 W0 hx (fun W' hb => HH.out.1.below (hB0.trans hb)) (by omega)
  refine wpIn_rangeFunc_ownH rfl (by omega) (gf := 40) (lb := #[.pointer (some ⟨w.heap.size + 2, 0, none⟩)]) rfl trivial (enters_of Try.func40 (by kernel_rfl) rfl)
    hst kpT_t (kpT_b (by omega)) (Below.refl _ _) (fun _ => rfl)
    (fun pre W => (∃ v, Boxed W (w.heap.size + 1) 22 v ∧ W.ownsRow w.heap.size 38 5 v (sel true pre).length (rfCs (sel true pre))) ∧ Below w.heap.size w W)
    (fun _ _ _ => False)
    (OwnFrom.and (Own.from (rowBox_own true _ _) _) (ownFrom_below (Nat.le_refl _) (by omega)))
    (fun _ _ _ _ _ hs _ _ => hs)
    ⟨⟨_, bL, World.ownsRow_nil _ _ _ _⟩, hB0⟩
    (fun x a' W => ∃ Bx, w.heap.size + 1 < Bx ∧ RfBox W Bx x.1 ∧ a' = { tmps := #[.agg #[.int .i64 R.n, .int .i64 R.now, .slice A R.l.length k, p, .int .i64 R.p.d, .int .i64 R.p.w, .int .i64 R.p.mo, .int .i64 R.p.y, c], .pointer (some ⟨w.heap.size, 0, none⟩), .slice none 0 0, .pointer (some ⟨w.heap.size + 1, 0, none⟩), .pointer (some ⟨Bx, 0, none⟩), .bool x.2, .agg #[.int .i64 R.n, .int .i64 R.now, .slice A R.l.length k, p, .int .i64 R.p.d, .int .i64 R.p.w, .int .i64 R.p.mo, .int .i64 R.p.y, c], .func (.func 40) #[] #[.pointer (some ⟨w.heap.size + 1 + 1, 0, none⟩)], rfV x.1, .bool x.2, undef, undef, undef, undef, undef, undef], defers := [] })
    (fun x a' _ X Y row hs hg hr => by
      obtain ⟨Bx, h1, h2, h3⟩ := hs
      refine ⟨Bx, h1, (hg.block _ (blk_lt h2) (fun e => ?_)).trans h2, h3⟩
      obtain ⟨-, o, ho, hc⟩ := hr Bx e.symm
      rw [show X.heap[Bx]? = _ from h2] at ho; cases ho; cases hc)
    ?assign ?body ?done ?stop
  case assign =>
    rintro l pre ⟨⟨ym, yn, yt, ynm, ytil⟩, q⟩ W K ⟨⟨v, hv, hrow⟩, hB⟩ hK
    dsimp only [encP, rfV, rfC] at hK ⊢
    have hlv := hv.lt
    have hsB := hB.size
    gi_wp2
    exact hK _ _ ((KeepsOthers.alloc _ _).from _) (kpT_alloc hsB _) ⟨⟨v, hv.alloc _, hrow.alloc _⟩, hB.alloc hsB _⟩ ⟨W.heap.size, hlv, heap_alloc_new W _, rfl⟩
  case body =>
    rintro l pre ⟨⟨ym, yn, yt, ynm, ytil⟩, q⟩ a' W hl - ⟨⟨v, hv, hrow⟩, hB⟩ ⟨Bx, hBx, bX, rfl⟩ hlt
    have hc := hv.cell
    have hlv := hv.lt
    have hsB := hB.size
    have hpl := sel_len true pre
    have h5 := five_cells W ⟨ym, yn, yt, ynm, ytil⟩
    have h1 := rfC_one ⟨ym, yn, yt, ynm, ytil⟩
    have hsx := sel_hit true pre (⟨ym, yn, yt, ynm, ytil⟩, true) rfl
    have y0 : W.cell? ⟨Bx, 0, none⟩ = some (.string ⟨ym.toArray⟩) := cell_row W _ 0 _ _ bX
    have y1 : W.cell? ⟨Bx, 1, none⟩ = some (.int .i64 yn) := cell_row W _ 1 _ _ bX
    have y2 : W.cell? ⟨Bx, 2, none⟩ = some (.int .i64 yt) := cell_row W _ 2 _ _ bX
    have y3 : W.cell? ⟨Bx, 3, none⟩ = some (.string ⟨ynm.toArray⟩) := cell_row W _ 3 _ _ bX
    have y4 : W.cell? ⟨Bx, 4, none⟩ = some (.int .i64 ytil) := cell_row W _ 4 _ _ bX
    clear bX
    dsimp only [rfV, rfC] at h5 h1 hsx ⊢
    cases q
    · gi_wp2
      exact ⟨KeepsFrom.refl _ _, ⟨Below.refl _ _, fun _ _ _ _ h _ _ => h⟩, ⟨v, hv, by rw [sel_miss true pre _ (by simp)]; exact hrow⟩, hB⟩
    · have H5 := Lib.hid (And.intro h5 (And.intro h1 hsx)); clear h5 h1 hsx
      gi_wp2_with (gi_at_builtin; refine wpListIn_append_own _ rfl _ _ 22 rfl w.heap.size 38 i0 (.agg #[.string ⟨#[]⟩, .int .i64 0, .int .i64 0, .string ⟨#[]⟩, .int .i64 0]) 5 56 Try.underlying22 HI.out.1 HI.out.2.1 HI.out.2.2.1 HI.out.2.2.2 rfl (by decide) _ _ _ rfl (hrow.alloc _) ⟨W.heap.size, 0, none⟩ 1 1 [.string ⟨ym.toArray⟩, .int .i64 yn, .int .i64 yt, .string ⟨ynm.toArray⟩, .int .i64 ytil] rfl rfl H5.out.1 H5.out.2.1 (by simp [maxLen]; omega) (by omega) (by simp; omega) ?_; intro v' w1 hown' hgrow _; obtain ⟨g', cap', rfl⟩ := ownsRow_succ hown'; obtain ⟨hv1, hv2, hr2, hk2, hb2⟩ := hv.appended (by decide) hrow hB.size (by omega) hown' hgrow; have hkp := kpT_app (v' := .slice (some ⟨g', 0, none⟩) ((sel true pre).length + 1) cap') hv hrow hgrow hb2; have hc1 := hv1.cell; have hf1 := hv1.frozen)
      refine ⟨hk2.from _, hkp, ⟨_, hv2, ?_⟩, hB.trans hb2⟩
      rw [H5.out.2.2, rfCs_append]
      simpa [rfCs, rfC] using hr2
  case done =>
    rintro D ys W hD rfl ⟨⟨v, hv, hrow⟩, hB⟩ hK
    have hc := hv.cell
    gi_wp2
    refine ⟨by simp, .inl ⟨_, _, rfl, run_takeDeferred hK, ?_⟩⟩
    exact ⟨_, results_tmp rfl _ _ _, v, rfl, ownsRow_putObj hrow _ hK rfl, hB.trans (belowK_b (w := w) (Nat.le_refl _) W D _ _ (by omega) hK rfl rfl)⟩
  case stop =>
    rintro D c pre W _ _ h _
    exact h.elim
end Go.Proofs.Yteamkiblogbfmaa
