/- The walk of hold.Trim: a root without the snapshots that may go. -/
import Derived.Test.YteamkiblogbfmaaHoldW7
import Derived.Test.YteamkiblogbfmaaHoldW4
namespace Go.Proofs.Yteamkiblogbfmaa
open Go.RowKit Go.Shelf
set_option linter.unusedVariables false
set_option linter.unusedSimpArgs false
attribute [local go_sem] Oper.semAt_some
/-- Two roots' boxes, one behind the other. -/
def TwoAt (B : Nat) (C Z : Array Value) (W : World) : Prop := W.heap[B]? = some (.cells C 28 (0, 0)) ∧ W.heap[B + 1]? = some (.cells Z 28 (0, 0))
theorem TwoAt.alloc {B : Nat} {C Z : Array Value} {W : World} (h : TwoAt B C Z W) (o : Obj) : TwoAt B C Z (W.alloc o) := ⟨(Below.heap_alloc _ _ _ (blk_lt h.1)).trans h.1, (Below.heap_alloc _ _ _ (blk_lt h.2)).trans h.2⟩
theorem cells_own {β : Type} (B : Nat) (C : Array Value) (t : TypeId) : Own (fun (_ : β) W => W.heap[B]? = some (.cells C t (0, 0))) := by
  rintro s X Y row hs hg hrow
  refine (hg.block B (blk_lt hs) (fun e' => ?_)).trans hs
  obtain ⟨o, ho, hc⟩ := hrow B e'.symm
  rw [hs] at ho; cases ho; cases hc
theorem twoAt_own {β : Type} (B : Nat) (C Z : Array Value) : Own (fun (_ : β) W => TwoAt B C Z W) := fun s X Y row hs hg hrow =>
  ⟨cells_own B C 28 () X Y row hs.1 hg hrow, cells_own (B + 1) Z 28 () X Y row hs.2 hg hrow⟩
theorem row_ne_root {w : World} {b k n B : Nat} {v : Value} {xs : List Value} {C : Array Value} (h : w.ownsRow b 38 k v n xs) (hC : w.heap[B]? = some (.cells C 28 (0, 0))) (e : v.ownBlock = some B) : False := by
  rcases h.2 with ⟨rfl, -⟩ | ⟨g, cap, cur, rfl, -, hg, -⟩
  · simp [Value.ownBlock] at e
  · simp [Value.ownBlock] at e
    subst e
    rw [hg] at hC
    injection hC with hC
    injection hC with _ hC
    exact absurd hC (by decide)
theorem four_new (w : World) (o1 o2 o3 o4 : Obj) : ((((w.alloc o1).alloc o2).alloc o3).alloc o4).heap[w.heap.size]? = some o1 ∧ ((((w.alloc o1).alloc o2).alloc o3).alloc o4).heap[w.heap.size + 1]? = some o2 ∧ ((((w.alloc o1).alloc o2).alloc o3).alloc o4).heap[w.heap.size + 2]? = some o3 ∧ ((((w.alloc o1).alloc o2).alloc o3).alloc o4).heap[w.heap.size + 3]? = some o4 := by
  have s1 : (w.alloc o1).heap.size = w.heap.size + 1 := by simp
  have s2 : ((w.alloc o1).alloc o2).heap.size = w.heap.size + 2 := by simp
  have s3 : (((w.alloc o1).alloc o2).alloc o3).heap.size = w.heap.size + 3 := by simp
  refine ⟨?_, ?_, ?_, ?_⟩
  · rw [Below.heap_alloc _ _ _ (by omega), Below.heap_alloc _ _ _ (by omega), Below.heap_alloc _ _ _ (by omega)]; exact heap_alloc_new w o1
  · rw [Below.heap_alloc _ _ _ (by omega), Below.heap_alloc _ _ _ (by omega), ← s1]; exact heap_alloc_new _ o2
  · rw [Below.heap_alloc _ _ _ (by omega), ← s2]; exact heap_alloc_new _ o3
  · rw [← s3]; exact heap_alloc_new _ o4
set_option maxRecDepth 100000 in
set_option maxHeartbeats 4000000 in
theorem trim_own (R : Pl.Rt) (s p c : Value) (w : World) (hl60 : R.l.length ≤ 60) (hok : RtOk R) (h : RtAt w R s p c) : Calls Try.prog 17 #[rtV R s p c] w (RetB (RtOwn { R with l := sel false (prs R) } w.heap.size) w) := by
  obtain ⟨i0, hi, hz0, hz1, hz2⟩ := info_parts info_rf
  obtain ⟨A, k, hsA, hr, -⟩ := h.s
  subst hsA
  have hcopy := fun W (hb : Below w.heap.size w W) => copy_any R (.slice A R.l.length k) p c W hok (h.below hb)
  have hrefs := fun W => refs_any R (.slice A R.l.length k) p c W
  have HI := Lib.hid (And.intro hi (And.intro hz0 (And.intro hz1 hz2))); clear hi hz0 hz1 hz2
  have HH := Lib.hid (And.intro hr hok); clear hr hok h
  unfold rtV at hrefs hcopy ⊢
  refine (callsIn_wide (n := 3)).1 ?_
  refine callsIn_of_wp_marks Try.func17 rfl trivial ?_ rfl
  simp only [Try.ntmps17, List.size_toArray, List.length_cons, List.length_nil, Nat.reduceAdd, Nat.reduceSub, Array.replicate_succ, Array.replicate_zero, List.push_toArray, List.append_toArray, List.nil_append, List.cons_append]
  refine wpIn_wide.2 ?_
  go_wp2_with fail
  refine (hrefs _).mono ?_
  rintro e w' ⟨rfl, rfl⟩
  go_wp2_with fail
  generalize hW0 : World.alloc (World.alloc (World.alloc (World.alloc w _) _) _) _ = W0
  have hB0 : Below w.heap.size w W0 := by rw [← hW0]; exact ((((Below.refl _ w).alloc (Nat.le_refl _) _).alloc (by simp) _).alloc (by simp; omega) _).alloc (by simp; omega) _
  have hsz : W0.heap.size = w.heap.size + 4 := by rw [← hW0]; simp
  obtain ⟨hx0, hz0, bL, hx⟩ : W0.heap[w.heap.size]? = some (.cells #[.int .i64 R.n, .int .i64 R.now, .slice A R.l.length k, p, .int .i64 R.p.d, .int .i64 R.p.w, .int .i64 R.p.mo, .int .i64 R.p.y, c] 28 (0, 0)) ∧ W0.heap[w.heap.size + 1]? = some (.cells #[.int .i64 0, .int .i64 0, .slice none 0 0, .slice none 0 0, .int .i64 0, .int .i64 0, .int .i64 0, .int .i64 0, .slice none 0 0] 28 (0, 0)) ∧ Boxed W0 (w.heap.size + 2) 22 (.slice none 0 0) ∧ W0.heap[w.heap.size + 3]? = some (.cells #[.int .i64 R.n, .int .i64 R.now, .slice A R.l.length k, p, .int .i64 R.p.d, .int .i64 R.p.w, .int .i64 R.p.mo, .int .i64 R.p.y, c] 28 (0, 0)) := by
    rw [← hW0]; exact four_new w _ _ _ _
  clear hW0
  have hst := refs_stops 2 (by omega) (w.heap.size + 3) w.heap.size R A k p c hl60 HH.out.2 W0 hx (fun W' hb => HH.out.1.below (hB0.trans hb)) (by omega)
  refine (wpIn_wide (n := 3)).1 ?_
  refine wpIn_rangeFunc_ownH rfl (by omega) (gf := 40) (lb := #[.pointer (some ⟨w.heap.size + 3, 0, none⟩)]) rfl trivial (enters_of Try.func40 (by kernel_rfl) rfl)
    hst kpT_t (kpT_b (by omega)) (Below.refl _ _) (fun _ => rfl)
    (fun pre W => ((∃ v, Boxed W (w.heap.size + 2) 22 v ∧ W.ownsRow w.heap.size 38 5 v (sel false pre).length (rfCs (sel false pre))) ∧ TwoAt w.heap.size #[.int .i64 R.n, .int .i64 R.now, .slice A R.l.length k, p, .int .i64 R.p.d, .int .i64 R.p.w, .int .i64 R.p.mo, .int .i64 R.p.y, c] #[.int .i64 0, .int .i64 0, .slice none 0 0, .slice none 0 0, .int .i64 0, .int .i64 0, .int .i64 0, .int .i64 0, .slice none 0 0] W) ∧ Below w.heap.size w W)
    (fun _ _ _ => False)
    (OwnFrom.and (OwnFrom.and (Own.from (rowBox_own false _ _) _) (Own.from (twoAt_own _ _ _) _)) (ownFrom_below (Nat.le_refl _) (by omega)))
    (fun _ _ _ _ _ hs _ _ => hs)
    ⟨⟨⟨_, bL, World.ownsRow_nil _ _ _ _⟩, hx0, hz0⟩, hB0⟩
    (fun x a' W => ∃ Bx, w.heap.size + 2 < Bx ∧ RfBox W Bx x.1 ∧ a' = { tmps := #[.agg #[.int .i64 R.n, .int .i64 R.now, .slice A R.l.length k, p, .int .i64 R.p.d, .int .i64 R.p.w, .int .i64 R.p.mo, .int .i64 R.p.y, c], .pointer (some ⟨w.heap.size, 0, none⟩), .pointer (some ⟨w.heap.size + 1, 0, none⟩), .pointer (some ⟨w.heap.size + 1 + 1, 0, none⟩), .pointer (some ⟨Bx, 0, none⟩), .bool x.2, .agg #[.int .i64 R.n, .int .i64 R.now, .slice A R.l.length k, p, .int .i64 R.p.d, .int .i64 R.p.w, .int .i64 R.p.mo, .int .i64 R.p.y, c], .func (.func 40) #[] #[.pointer (some ⟨w.heap.size + 1 + 1 + 1, 0, none⟩)], rfV x.1, .bool x.2, undef, undef, undef, undef, undef, undef, undef, undef, undef, undef, undef], defers := [] })
    (fun x a' _ X Y row hs hg hr => by
      obtain ⟨Bx, h1, h2, h3⟩ := hs
      refine ⟨Bx, h1, (hg.block _ (blk_lt h2) (fun e => ?_)).trans h2, h3⟩
      obtain ⟨-, o, ho, hc⟩ := hr Bx e.symm
      rw [show X.heap[Bx]? = _ from h2] at ho; cases ho; cases hc)
    ?assign ?body ?done ?stop
  case assign =>
    rintro l pre ⟨⟨ym, yn, yt, ynm, ytil⟩, q⟩ W K ⟨⟨⟨v, hv, hrow⟩, h2⟩, hB⟩ hK
    dsimp only [encP, rfV, rfC] at hK ⊢
    have hlv := hv.lt
    have hsB := hB.size
    gi_wp2
    exact hK _ _ ((KeepsOthers.alloc _ _).from _) (kpT_alloc hsB _) ⟨⟨⟨v, hv.alloc _, hrow.alloc _⟩, h2.alloc _⟩, hB.alloc hsB _⟩ ⟨W.heap.size, hlv, heap_alloc_new W _, rfl⟩
  case body =>
    rintro l pre ⟨⟨ym, yn, yt, ynm, ytil⟩, q⟩ a' W hl - ⟨⟨⟨v, hv, hrow⟩, h2⟩, hB⟩ ⟨Bx, hBx, bX, rfl⟩ hlt
    have hc := hv.cell
    have hlv := hv.lt
    have hsB := hB.size
    have hpl := sel_len false pre
    have h5 := five_cells W ⟨ym, yn, yt, ynm, ytil⟩
    have h1 := rfC_one ⟨ym, yn, yt, ynm, ytil⟩
    have hsx := sel_hit false pre (⟨ym, yn, yt, ynm, ytil⟩, false) rfl
    have y0 : W.cell? ⟨Bx, 0, none⟩ = some (.string ⟨ym.toArray⟩) := cell_row W _ 0 _ _ bX
    have y1 : W.cell? ⟨Bx, 1, none⟩ = some (.int .i64 yn) := cell_row W _ 1 _ _ bX
    have y2 : W.cell? ⟨Bx, 2, none⟩ = some (.int .i64 yt) := cell_row W _ 2 _ _ bX
    have y3 : W.cell? ⟨Bx, 3, none⟩ = some (.string ⟨ynm.toArray⟩) := cell_row W _ 3 _ _ bX
    have y4 : W.cell? ⟨Bx, 4, none⟩ = some (.int .i64 ytil) := cell_row W _ 4 _ _ bX
    clear bX
    dsimp only [rfV, rfC] at h5 h1 hsx ⊢
    cases q
    · have H5 := Lib.hid (And.intro h5 (And.intro h1 hsx)); clear h5 h1 hsx
      gi_wp2_with (gi_at_builtin; refine wpListIn_append_own _ rfl _ _ 22 rfl w.heap.size 38 i0 (.agg #[.string ⟨#[]⟩, .int .i64 0, .int .i64 0, .string ⟨#[]⟩, .int .i64 0]) 5 56 Try.underlying22 HI.out.1 HI.out.2.1 HI.out.2.2.1 HI.out.2.2.2 rfl (by decide) _ _ _ rfl (hrow.alloc _) ⟨W.heap.size, 0, none⟩ 1 1 [.string ⟨ym.toArray⟩, .int .i64 yn, .int .i64 yt, .string ⟨ynm.toArray⟩, .int .i64 ytil] rfl rfl H5.out.1 H5.out.2.1 (by simp [maxLen]; omega) (by omega) (by simp; omega) ?_; intro v' w1 hown' hgrow _; obtain ⟨g', cap', rfl⟩ := ownsRow_succ hown'; obtain ⟨hv1, hv2, hr2, hk2, hb2⟩ := hv.appended (by decide) hrow hB.size (by omega) hown' hgrow; have hkp := kpT_app (v' := .slice (some ⟨g', 0, none⟩) ((sel false pre).length + 1) cap') hv hrow hgrow hb2; have hc1 := hv1.cell; have hf1 := hv1.frozen)
      refine ⟨hk2.from _, hkp, ⟨⟨_, hv2, ?_⟩, hkp.2 _ _ _ _ h2.1 (by decide) (by decide), hkp.2 _ _ _ _ h2.2 (by decide) (by decide)⟩, hB.trans hb2⟩
      rw [H5.out.2.2, rfCs_append]
      simpa [rfCs, rfC] using hr2
    · gi_wp2
      exact ⟨KeepsFrom.refl _ _, ⟨Below.refl _ _, fun _ _ _ _ h _ _ => h⟩, ⟨⟨v, hv, by rw [sel_miss false pre _ (by simp)]; exact hrow⟩, h2⟩, hB⟩
  case done =>
    rintro D ys W hD rfl ⟨⟨⟨v, hv, hrow⟩, h2⟩, hB⟩ hK
    obtain ⟨L, hL⟩ : ∃ L : List Value, L = [.int .i64 R.n, .int .i64 R.now, .slice A R.l.length k, p, .int .i64 R.p.d, .int .i64 R.p.w, .int .i64 R.p.mo, .int .i64 R.p.y, c] := ⟨_, rfl⟩
    have hxL : W.heap[w.heap.size]? = some (.cells L.toArray 28 (0, 0)) := by rw [hL]; exact h2.1
    have hzL := h2.2
    have hif : (Try.prog.info? 28).map (·.size) = some L.length := by rw [hL]; exact info_root
    have hl9' : L.length = 9 := by rw [hL]; rfl
    have hcp : Calls Try.prog 23 #[.agg L.toArray] W (RetB (CopyOut R W.heap.size) W) := by rw [hL]; exact hcopy W hB
    have hbl := hv.lt
    have hDl := blk_lt hK
    have HD := Lib.hid (And.intro hv (And.intro hrow (And.intro hB (And.intro hK (And.intro hzL hL))))); clear hv hrow hB hK hzL h2 hL
    go_upto_region 7 with (fail)
    go_wp2_with (with_reducible refine wpList_load_mid rfl 28 _ rfl w.heap.size 0 rfl L _ (range_rowd hxL) Try.underlying28 rfl hif ?_)
    refine hcp.mono ?_
    rintro e w2 ⟨v2, rfl, ⟨s2, p2, ch2, sv2, rfl, hcp2⟩, hb2⟩
    clear hcp
    obtain ⟨L2, hL2⟩ : ∃ L2 : List Value, L2 = [.int .i64 R.n, .int .i64 R.now, s2, p2, .int .i64 R.p.d, .int .i64 R.p.w, .int .i64 R.p.mo, .int .i64 R.p.y, ch2] := ⟨_, rfl⟩
    have hvv : rtV R s2 p2 ch2 = .agg L2.toArray := by rw [hL2]; rfl
    rw [hvv]
    have hl9 : L2.length = 9 := by rw [hL2]; rfl
    have hone : L2.toArray.all (·.oneCell') = true := all_oneCell_toArray (by
      rw [hL2]; intro v hv
      simp only [List.mem_cons, List.not_mem_nil, or_false] at hv
      rcases hv with rfl | rfl | rfl | rfl | rfl | rfl | rfl | rfl | rfl
      · rfl
      · rfl
      · exact (SlV.own hcp2.s).one
      · exact (SlV.own hcp2.p).one
      · rfl
      · rfl
      · rfl
      · rfl
      · exact (SlV.own hcp2.c).one)
    have hx2 := (hb2.block _ (by omega)).trans hxL
    have hz2 := (hb2.block _ (by omega)).trans HD.out.2.2.2.2.1
    have hT2 : w2.there w.heap.size 0 L2.toArray.size := there_rowd hx2 (by rw [List.size_toArray, List.size_toArray, hl9, hl9']; exact Nat.le_refl _)
    have hi2 : (Try.prog.info? 28).map (·.size) = some L2.toArray.size := by rw [List.size_toArray, hl9]; exact info_root
    have H2 := Lib.hid (And.intro hb2 (And.intro hx2 (And.intro hz2 (And.intro hcp2 hL2)))); clear hb2 hx2 hz2 hcp2 hL2 hvv hxL
    go_upto_region 8 with (with_reducible refine wpList_store_mid rfl 28 _ _ rfl w.heap.size 0 L2.toArray rfl rfl hT2 hi2 hone ?_)
    generalize hW3 : World.setCells w2 _ _ _ = W3
    have hbut : ∀ k, k < w2.heap.size → k ≠ w.heap.size → W3.heap[k]? = w2.heap[k]? := fun k hk hne => by rw [← hW3]; exact World.heap_setCells_other w2 _ _ _ hk hne
    have hb3 : ∀ k o, k < W.heap.size → k ≠ w.heap.size → W.heap[k]? = some o → W3.heap[k]? = some o := fun k o hk hne ho => (hbut k (Nat.lt_of_lt_of_le hk H2.out.1.size) hne).trans ((H2.out.1.block k hk).trans ho)
    have hx3 : W3.heap[w.heap.size]? = some (.cells L2.toArray 28 (0, 0)) := by rw [← hW3]; exact heap_setCells_all H2.out.2.1 (by rw [hl9, hl9'])
    have hv3 : Boxed W3 (w.heap.size + 2) 22 v := hb3 _ _ hbl (by omega) HD.out.1
    have hc3 := H2.out.2.2.2.1.but hbut (by omega)
    have hbw3 : Below w.heap.size w W3 := by rw [← hW3]; exact (HD.out.2.2.1.trans (H2.out.1.mono HD.out.2.2.1.size)).trans (Lib.below_setCells_w (Nat.le_refl _) _ _ _)
    have hrow3 : W3.ownsRow w.heap.size 38 5 v (sel false (prs R)).length (rfCs (sel false (prs R))) := by
      refine own_but' (own_below HD.out.2.1 H2.out.1) hbut ?_
      intro e
      exact row_ne_root (own_below HD.out.2.1 H2.out.1) H2.out.2.1 e
    have hsz3 : W.heap.size ≤ W3.heap.size := Nat.le_trans H2.out.1.size (by rw [← hW3]; exact (Lib.below_setCells_w (B := 0) (Nat.zero_le _) _ _ _).size)
    clear hW3 hbut hT2
    have hx3' := hx3
    rw [H2.out.2.2.2.2] at hx3'
    have x2 : W3.cell? ⟨w.heap.size, 2, none⟩ = some s2 := cell_row W3 _ 2 _ _ hx3'
    have f2 := frozen_of W3 w.heap.size 2 _ _ hx3'
    have xl := hv3.cell
    have H3 := Lib.hid (And.intro hx3' (And.intro hb3 (And.intro hc3 (And.intro hbw3 (And.intro hrow3 hsz3))))); clear hx3 hx3' hv3 hc3 hbw3 hrow3 hsz3 hb3
    obtain ⟨A4, c4, rfl⟩ := own_form' HD.out.2.1
    obtain ⟨A5, c5, rfl⟩ := own_form' H2.out.2.2.2.1.s
    go_upto_region 9 with (fail)
    generalize hW4 : World.setCell W3 _ _ = W4
    obtain ⟨L3, hL3⟩ : ∃ L3 : List Value, L3 = [.int .i64 R.n, .int .i64 R.now, .slice A4 (sel false (prs R)).length c4, p2, .int .i64 R.p.d, .int .i64 R.p.w, .int .i64 R.p.mo, .int .i64 R.p.y, ch2] := ⟨_, rfl⟩
    have hx4 := set_at W3 w.heap.size 2 _ (.slice A4 (sel false (prs R)).length c4) _ H3.out.1
    have hx4 : W4.heap[w.heap.size]? = some (.cells L3.toArray 28 (0, 0)) := by rw [← hW4, hL3]; simpa using hx4
    have hbut4 : ∀ k, k < W3.heap.size → k ≠ w.heap.size → W4.heap[k]? = W3.heap[k]? := by rw [← hW4]; exact set_but W3 _ _ _
    have hs4 : W4.heap.size = W3.heap.size := by rw [← hW4]; simp
    have hsz3 := H3.out.2.2.2.2.2
    have hb4 : ∀ k o, k < W.heap.size → k ≠ w.heap.size → W.heap[k]? = some o → W4.heap[k]? = some o := fun k o hk hne ho => (hbut4 k (by omega) hne).trans (H3.out.2.1 k o hk hne ho)
    have hc4 := H3.out.2.2.1.but hbut4 (by omega)
    have hbw4 : Below w.heap.size w W4 := by rw [← hW4]; exact H3.out.2.2.2.1.setCell (Nat.le_refl _) _
    have hrow4 := own_but' H3.out.2.2.2.2.1 hbut4 (fun e => row_ne_root H3.out.2.2.2.2.1 H3.out.1 e)
    have hz4 := hb4 _ _ (by omega) (by omega) HD.out.2.2.2.2.1
    have hK4 := hb4 _ _ hDl (by omega) HD.out.2.2.2.1
    clear hW4 hbut4
    have hl93 : L3.length = 9 := by rw [hL3]; rfl
    have hone3 : L3.toArray.all (·.oneCell') = true := all_oneCell_toArray (by
      rw [hL3]; intro v hv
      simp only [List.mem_cons, List.not_mem_nil, or_false] at hv
      rcases hv with rfl | rfl | rfl | rfl | rfl | rfl | rfl | rfl | rfl
      · rfl
      · rfl
      · rfl
      · exact (SlV.own hc4.p).one
      · rfl
      · rfl
      · rfl
      · rfl
      · exact (SlV.own hc4.c).one)
    have hTW : W4.there (w.heap.size + 1) 0 L3.toArray.size := there_rowd hz4 (by rw [List.size_toArray, hl93]; exact Nat.le_refl _)
    have hTL : W4.there (w.heap.size + 1) 0 L3.length := by rw [List.size_toArray] at hTW; exact hTW
    have hi3 : (Try.prog.info? 28).map (·.size) = some L3.toArray.size := by rw [List.size_toArray, hl93]; exact info_root
    have hil3 : (Try.prog.info? 28).map (·.size) = some L3.length := by rw [hl93]; exact info_root
    have H4 := Lib.hid (And.intro hc4 (And.intro hbw4 (And.intro hrow4 (And.intro hz4 (And.intro hK4 hL3))))); clear hc4 hbw4 hrow4 hz4 hK4 hL3
    go_wp2_with (first | (with_reducible refine wpList_load_mid rfl 28 _ rfl w.heap.size 0 rfl L3 _ (range_rowd hx4) Try.underlying28 rfl hil3 ?_) | (with_reducible refine wpList_store_mid rfl 28 _ _ rfl (w.heap.size + 1) 0 L3.toArray rfl rfl hTW hi3 hone3 ?_))
    obtain ⟨hc4, hbw4, hrow4, hz4, hK4, hL3⟩ := H4.out
    generalize hW5 : World.setCells W4 _ _ _ = W5
    have hrg : W5.rangeAt (w.heap.size + 1) 0 L3 := by rw [← hW5]; exact World.rangeAt_setCells_same _ _ _ _ hTL
    have hbut5 : ∀ k, k < W4.heap.size → k ≠ w.heap.size + 1 → W5.heap[k]? = W4.heap[k]? := fun k hk hne => by rw [← hW5]; exact World.heap_setCells_other W4 _ _ _ hk hne
    have hb5 : Below (w.heap.size + 1) W4 W5 := by rw [← hW5]; exact Lib.below_setCells_w (Nat.le_refl _) _ _ _
    have hK5 := (hbut5 D (by omega) (by omega)).trans hK4
    have hc5 := hc4.but hbut5 (by omega)
    have hrow5 := own_but' hrow4 hbut5 (fun e => row_ne_root hrow4 hz4 e)
    refine ⟨by simp, .inl ⟨_, _, rfl, run_takeDeferred hK5, ?_⟩⟩
    have hD5 : ∀ k, k < W5.heap.size → k ≠ D → (W5.putObj D (.deferred none)).heap[k]? = W5.heap[k]? := fun k _ hne => World.putObj_heap_other hne
    have hrg5 : (W5.putObj D (.deferred none)).rangeAt (w.heap.size + 1) 0 L3 := fun j v hj => cell_kept (hrg j v hj) (grownBy_putObj' _ D (.deferred none)) (fun r e => by cases e; exact ⟨_, hK5, rfl⟩)
    have hb9 : Below w.heap.size w (W5.putObj D (.deferred none)) := (hbw4.trans (hb5.mono (Nat.le_succ _))).trans (belowK_b (w := w) (Nat.le_refl _) W5 D _ _ (by omega) hK5 rfl rfl)
    have hc9 := hc5.but hD5 hDl
    refine ⟨_, results_row (cs := L3) rfl rfl hrg5 Try.underlying28 rfl hil3, _, rfl, ⟨.slice A4 (sel false (prs R)).length c4, p2, ch2, sv2, ?_, ⟨?_, hc9.len, own_weak hc9.p HD.out.2.2.1.size, fun q x s hx hs => own_weak (hc9.pl q x s hx hs) HD.out.2.2.1.size, own_weak hc9.c HD.out.2.2.1.size⟩⟩, hb9⟩
    · rw [hL3]; rfl
    · exact ownsRow_putObj hrow5 _ hK5 rfl
  case stop =>
    rintro D c pre W _ _ h _
    exact h.elim
theorem trim_any (R : Pl.Rt) (s p c : Value) (w : World) (hl60 : R.l.length ≤ 60) (hok : RtOk R) (h : RtAt w R s p c) : Calls Try.prog 17 #[rtV R s p c] w (RetB (RootV { R with l := sel false (prs R) }) w) := by
  refine (trim_own R s p c w hl60 hok h).mono ?_
  rintro e w' ⟨v, h1, h3, h4⟩
  exact ⟨v, h1, h3.root, h4⟩
end Go.Proofs.Yteamkiblogbfmaa
