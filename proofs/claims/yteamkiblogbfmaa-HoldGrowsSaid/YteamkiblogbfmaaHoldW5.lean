/- The walk of the document's Set. -/
import Derived.Test.YteamkiblogbfmaaHoldW4
namespace Go.Proofs.Yteamkiblogbfmaa
open Go.RowKit
set_option linter.unusedVariables false
set_option linter.unusedSimpArgs false
theorem own_some {w : World} {base : Nat} {e : TypeId} {k n : Nat} {v : Value} {xs : List Value} (h : w.ownsRow base e k v n xs) (hn : 0 < n) : ∃ g c, v = .slice (some ⟨g, 0, none⟩) n c := by
  rcases h.2 with ⟨-, h0⟩ | ⟨g, cap, cur, h1, -⟩
  · omega
  · exact ⟨g, cap, h1⟩
set_option maxRecDepth 100000 in
set_option maxHeartbeats 4000000 in
theorem rset_any (R : Pl.Rt) (s p c : Value) (m : List UInt8) (n til : Int) (w : World) (hok : RtOk R) (h : RtAt w R s p c) : Calls Try.prog 13 #[rtV R s p c, .string ⟨m.toArray⟩, .int .i64 n, .int .i64 til] w (RetB (SetOut R m n til) w) := by
  have hfind := fun W (hb : Below w.heap.size w W) => rfind_any R s p c m n W (by have := hok.l; omega) (h.below hb)
  have hcopy : True ∧ RtOk R ∧ RtAt w R s p c := ⟨trivial, hok, h⟩
  obtain ⟨E, hE⟩ : ∃ E, E = Pl.setE R m n til := ⟨_, rfl⟩
  obtain ⟨R', hR'⟩ : ∃ R', R' = Pl.setR R m n til := ⟨_, rfl⟩
  have hout : SetOut R m n til = fun v w' => ∃ rv, v = .tuple #[rv, .int .i64 E] ∧ RootV R' rv w' := by rw [hE, hR']; rfl
  rw [hout]
  obtain ⟨r0, hr0⟩ : ∃ x, x = R.n := ⟨_, rfl⟩
  obtain ⟨r1, hr1⟩ : ∃ x, x = R.now := ⟨_, rfl⟩
  obtain ⟨r2, hr2⟩ : ∃ x, x = R.p.d := ⟨_, rfl⟩
  obtain ⟨r3, hr3⟩ : ∃ x, x = R.p.w := ⟨_, rfl⟩
  obtain ⟨r4, hr4⟩ : ∃ x, x = R.p.mo := ⟨_, rfl⟩
  obtain ⟨r5, hr5⟩ : ∃ x, x = R.p.y := ⟨_, rfl⟩
  have hV : ∀ s p c, rtV R s p c = .agg #[.int .i64 r0, .int .i64 r1, s, p, .int .i64 r2, .int .i64 r3, .int .i64 r4, .int .i64 r5, c] := by
    intro s p c; rw [hr0, hr1, hr2, hr3, hr4, hr5]; rfl
  rw [hV] at hfind ⊢
  obtain ⟨hs, hp, hc⟩ := h
  obtain ⟨A0, k0, rfl, hrd0, hn0⟩ := hs
  obtain ⟨sv0, -, ⟨A1, k1, rfl, -, -⟩, -⟩ := hp
  obtain ⟨A2, k2, rfl, -, -⟩ := hc
  obtain ⟨N, hN⟩ : ∃ N, N = R.l.length := ⟨_, rfl⟩
  rw [← hN] at hfind hcopy hrd0 ⊢
  obtain ⟨N1, hN1⟩ : ∃ N, N = R.pk.length := ⟨_, rfl⟩
  obtain ⟨N2, hN2⟩ : ∃ N, N = R.ch.length := ⟨_, rfl⟩
  rw [← hN1, ← hN2] at hfind hcopy ⊢
  obtain ⟨F, hF⟩ : ∃ F, F = fiV R.l m n := ⟨_, rfl⟩
  rw [← hF] at hfind
  have HH := Lib.hid (And.intro hfind (And.intro hcopy (And.intro hE (And.intro hR' (And.intro hV (And.intro hN (And.intro hF (And.intro hrd0 hr1))))))))
  clear hfind hcopy hE hR' hV hr0 hr2 hr3 hr4 hr5 hN hN1 hN2 hF hrd0 hn0 hout hr1
  obtain ⟨Z, hZ⟩ : ∃ Z, ZRt Z := ⟨_, ⟨rfl⟩⟩
  go_enter Try.func13, Try.ntmps13
  go_upto_region 1 with (fail)
  generalize hW : World.alloc (World.alloc w _) _ = W
  have hbW : Below w.heap.size w W := by rw [← hW]; exact ((Below.refl _ _).alloc (Nat.le_refl _) _).alloc (by simp) _
  have hx : W.heap[w.heap.size]? = some (.cells #[.int .i64 r0, .int .i64 r1, .slice A0 N k0, .slice A1 N1 k1, .int .i64 r2, .int .i64 r3, .int .i64 r4, .int .i64 r5, .slice A2 N2 k2] 28 (0, 0)) := by rw [← hW]; exact (Below.heap_alloc _ _ _ (by simp)).trans (heap_alloc_new w _)
  have hz : W.heap[w.heap.size + 1]? = some (.cells rtZ.toArray 28 (0, 0)) := by rw [← hW]; exact heap_alloc_2 w _ _
  have hsz := blk_lt hz
  obtain ⟨L, hL⟩ : ∃ L : List Value, L = [.int .i64 r0, .int .i64 r1, .slice A0 N k0, .slice A1 N1 k1, .int .i64 r2, .int .i64 r3, .int .i64 r4, .int .i64 r5, .slice A2 N2 k2] := ⟨_, rfl⟩
  have hx : W.heap[w.heap.size]? = some (.cells L.toArray 28 (0, 0)) := by rw [hL]; exact hx
  have hif : (Try.prog.info? 28).map (·.size) = some L.length := by rw [hL]; exact info_root
  have HW := Lib.hid (And.intro hbW (And.intro hx hz)); clear hbW hx hz hW
  go_wp2_with (with_reducible refine wpList_load_mid rfl 28 _ rfl w.heap.size 0 rfl L _ (range_rowd HW.out.2.1) Try.underlying28 rfl hif ?_)
  refine (HH.out.1 W HW.out.1).mono ?_
  rintro e w1 ⟨v1, rfl, rfl, hb1⟩
  have hx1 := (hb1.block _ (by omega)).trans HW.out.2.1
  have hz1 := (hb1.block _ hsz).trans HW.out.2.2
  have hbw := HW.out.1.trans (hb1.mono HW.out.1.size)
  clear hx hb1 HW
  have hsz := blk_lt hz1
  have hx1' := hx1
  rw [hL] at hx1'
  have x1 : w1.cell? ⟨w.heap.size, 1, none⟩ = some (.int .i64 r1) := cell_row w1 _ 1 _ _ hx1'
  have x2 : w1.cell? ⟨w.heap.size, 2, none⟩ = some (.slice A0 N k0) := cell_row w1 _ 2 _ _ hx1'
  have hTZ : w1.there (w.heap.size + 1) 0 Z.toArray.size := there_rowd hz1 (by rw [hZ.eq]; exact Nat.le_refl _)
  have hTZ' : w1.there (w.heap.size + 1) 0 Z.length := by rw [List.size_toArray] at hTZ; exact hTZ
  have H1 := Lib.hid (And.intro hx1 (And.intro hz1 (And.intro hbw hL))); clear hx1 hz1 hbw hx1' hL
  have hz0 : World.rangeAt (w1.setCells (w.heap.size + 1) 0 Z) (w.heap.size + 1) 0 Z := World.rangeAt_setCells_same _ _ _ _ hTZ'
  have hbz : Below w.heap.size w (w1.setCells (w.heap.size + 1) 0 Z) := H1.out.2.2.1.trans (Lib.below_setCells_w (Nat.le_succ _) _ _ _)
  by_cases c1 : R.l.length ≤ Pl.fi R.l m n
  · have hF : F = -1 := by rw [HH.out.2.2.2.2.2.2.1, fiV_neg c1]
    have hE : E = 9 := by rw [HH.out.2.2.1]; unfold Pl.setE; rw [if_pos c1]
    have hR : R' = Pl.Rt.zero := by rw [HH.out.2.2.2.1]; unfold Pl.setR; rw [← HH.out.2.2.1, hE, if_neg (by decide)]
    subst hF hE hR
    go_wp2_with (first | (with_reducible refine hZ.build rfl rfl ?_) | (with_reducible refine wpList_store_mid rfl 28 _ _ rfl (w.heap.size + 1) 0 Z.toArray rfl rfl hTZ hZ.infoa hZ.one ?_))
    refine bodyPost_ret (results_row2 (cs := Z) rfl rfl hz0 Try.underlying28 rfl hZ.info) rfl ?_
    exact ⟨_, rfl, ⟨_, rfl, by rw [hZ.eq]; exact RootV.zero _⟩, hbz⟩
  · obtain ⟨i, hi⟩ : ∃ i, i = Pl.fi R.l m n := ⟨_, rfl⟩
    have hF : F = (i : Int) := by rw [HH.out.2.2.2.2.2.2.1, fiV_pos c1, hi]
    have hiN : i < N := by rw [HH.out.2.2.2.2.2.1, hi]; omega
    have hSE : E = if til ≤ r1 then 1 else if til < (R.l.getD i default).til then 20 else 0 := by
      rw [HH.out.2.2.1, hi, HH.out.2.2.2.2.2.2.2.2]; unfold Pl.setE; rw [if_neg c1]
    have hSR : R' = if E = 0 then { R with l := Pl.hold1 R.l i til } else Pl.Rt.zero := by
      rw [HH.out.2.2.2.1, HH.out.2.2.1, hi]; rfl
    subst hF
    obtain ⟨b, off, rfl, hbb, hrf⟩ := HH.out.2.2.2.2.2.2.2.1.rf HH.out.2.2.2.2.2.1.symm hiN
    obtain ⟨y, hy⟩ : ∃ y, R.l.getD i default = y := ⟨_, rfl⟩
    obtain ⟨-, -, -, -, q4⟩ := hrf y hy
    rw [hy] at hSE
    have y4 := (H1.out.2.2.1.cell (p := ⟨b, off + i * 5 + 4, none⟩) hbb).trans q4
    obtain ⟨yt, hyt⟩ : ∃ t, t = y.til := ⟨_, rfl⟩
    rw [← hyt] at y4 hSE
    have i0 : ¬ (i : Int) < 0 := by omega
    have i0' : (0 : Int) ≤ (i : Int) := by omega
    have i1 : (i : Int) < (N : Int) := by omega
    have HS := Lib.hid (And.intro hi (And.intro hy hok))
    clear hrf q4 hyt hi hy hok c1
    by_cases c2 : til ≤ r1
    · rw [if_pos c2] at hSE
      rw [hSE, if_neg (by decide)] at hSR
      subst hSE hSR
      go_wp2_with (first | (with_reducible refine hZ.build rfl rfl ?_) | (with_reducible refine wpList_store_mid rfl 28 _ _ rfl (w.heap.size + 1) 0 Z.toArray rfl rfl hTZ hZ.infoa hZ.one ?_))
      refine bodyPost_ret (results_row2 (cs := Z) rfl rfl hz0 Try.underlying28 rfl hZ.info) rfl ?_
      exact ⟨_, rfl, ⟨_, rfl, by rw [hZ.eq]; exact RootV.zero _⟩, hbz⟩
    · rw [if_neg c2] at hSE
      by_cases c3 : til < yt
      · rw [if_pos c3] at hSE
        rw [hSE, if_neg (by decide)] at hSR
        subst hSE hSR
        go_wp2_with (first | (with_reducible refine hZ.build rfl rfl ?_) | (with_reducible refine wpList_store_mid rfl 28 _ _ rfl (w.heap.size + 1) 0 Z.toArray rfl rfl hTZ hZ.infoa hZ.one ?_))
        refine bodyPost_ret (results_row2 (cs := Z) rfl rfl hz0 Try.underlying28 rfl hZ.info) rfl ?_
        exact ⟨_, rfl, ⟨_, rfl, by rw [hZ.eq]; exact RootV.zero _⟩, hbz⟩
      · rw [if_neg c3] at hSE
        rw [hSE, if_pos rfl] at hSR
        subst hSE
        have HR := Lib.hid hSR; clear hSR
        clear hif hbz hz0 hTZ'
        go_upto_region 8 with (fail)
        have hown0 : (w1.alloc (.cells #[] 38)).ownsRow w1.heap.size 38 5 (.slice (some ⟨w1.heap.size, 0, none⟩) 0 0) 0 [] := World.ownsRow_made w1 #[] 0 (Nat.le_refl _) (by simp [maxLen]) (by simp)
        have hrd1 := (HH.out.2.2.2.2.2.2.2.1.below H1.out.2.2.1).alloc (.cells #[] 38)
        have hlb : N * 56 ≤ 140737488355328 := by rw [HH.out.2.2.2.2.2.1]; exact HS.out.2.2.l
        have HI := Lib.hid (And.intro info_rf (And.intro hrd1 hown0)); clear hrd1 hown0
        have hsz0 : w.heap.size < w1.heap.size := by omega
        have fz2 : w1.frozen? ⟨w.heap.size, 2, none⟩ = false := frozen_of w1 _ 2 _ _ H1.out.1
        go_upto_region 9 with (at_builtin; refine push_many rfl (.tmp 32) (.tmp 34) 22 rfl w1.heap.size 38 (.agg #[.string ⟨#[]⟩, .int .i64 0, .int .i64 0, .string ⟨#[]⟩, .int .i64 0]) 5 56 Try.underlying22 HI.out.1 (by decide) (by decide) _ _ _ _ (some ⟨b, off, none⟩) N k0 (rfCs R.l) rfl HI.out.2.2 rfl HI.out.2.1 (fun h => by cases h) (rfCs_one _) (by omega) (by omega) (by simp) ?_; intro v2 w2 hown2 hb2; rw [Nat.zero_add] at hown2; obtain ⟨g, k, rfl⟩ := own_some hown2 (by omega); have hb2' := ((Below.refl w1.heap.size w1).alloc (Nat.le_refl _) (.cells #[] 38)).trans hb2; have x2' := (hb2'.cell (p := ⟨w.heap.size, 2, none⟩) (by omega)).trans x2; have fz2' : w2.frozen? ⟨w.heap.size, 2, none⟩ = false := frozen_of w2 _ 2 _ _ ((hb2'.block _ (by omega)).trans H1.out.1))
        have hown2 : w2.ownsRow w1.heap.size 38 5 (.slice (some ⟨g, 0, none⟩) N k) N (rfCs R.l) := hown2
        have hx2 := (hb2'.block w.heap.size (by omega)).trans H1.out.1
        rw [H1.out.2.2.2] at hx2
        have hz2 := (hb2'.block (w.heap.size + 1) (by omega)).trans H1.out.2.1
        have hbw2 := H1.out.2.2.1.trans (hb2'.mono H1.out.2.2.1.size)
        generalize hW3 : World.setCell w2 _ _ = W3
        obtain ⟨L2, hL2⟩ : ∃ L2 : List Value, L2 = [.int .i64 r0, .int .i64 r1, .slice (some ⟨g, 0, none⟩) N k, .slice A1 N1 k1, .int .i64 r2, .int .i64 r3, .int .i64 r4, .int .i64 r5, .slice A2 N2 k2] := ⟨_, rfl⟩
        have hx3 := set_at w2 w.heap.size 2 _ (.slice (some ⟨g, 0, none⟩) N k) _ hx2
        have hx3 : W3.heap[w.heap.size]? = some (.cells L2.toArray 28 (0, 0)) := by rw [← hW3, hL2]; simpa using hx3
        have hz3 : W3.heap[w.heap.size + 1]? = some (.cells rtZ.toArray 28 (0, 0)) := by rw [← hW3]; exact (Below.heap_setCell _ _ _ _ (by simp)).trans hz2
        have ho3 := own_other hown2 (B := w.heap.size) (by omega) 2 (.slice (some ⟨g, 0, none⟩) N k)
        have hbw3 : Below w.heap.size w W3 := by rw [← hW3]; exact hbw2.setCell (Nat.le_refl _) _
        rw [hW3] at ho3
        have hv : rtV R (.slice (some ⟨g, 0, none⟩) N k) (.slice A1 N1 k1) (.slice A2 N2 k2) = .agg L2.toArray := by rw [HH.out.2.2.2.2.1, hL2]
        have hl9 : L2.length = 9 := by rw [hL2]; rfl
        have hone : L2.toArray.all (·.oneCell') = true := all_oneCell_toArray (by
          rw [hL2]; intro v hv
          simp only [List.mem_cons, List.not_mem_nil, or_false] at hv
          rcases hv with rfl | rfl | rfl | rfl | rfl | rfl | rfl | rfl | rfl <;> rfl)
        have hi2 : (Try.prog.info? 28).map (·.size) = some L2.toArray.size := by rw [List.size_toArray, hl9]; exact info_root
        have hil2 : (Try.prog.info? 28).map (·.size) = some L2.length := by rw [hl9]; exact info_root
        clear hx2 hz2 hbw2 hW3 hown2 hb2 hb2' x2' fz2' x1 x2 fz2 y4
        have hx3' := hx3
        rw [hL2] at hx3'
        have x2 : W3.cell? ⟨w.heap.size, 2, none⟩ = some (.slice (some ⟨g, 0, none⟩) N k) := cell_row W3 _ 2 _ _ hx3'
        have hil : i < R.l.length := by rw [← HH.out.2.2.2.2.2.1]; exact hiN
        have y4 : W3.cell? ⟨g, i * 5 + 4, none⟩ = some (.int .i64 (R.l[i]'hil).til) := by rw [ho3.cellAt _ (by omega), rfCs_get R.l i 4 hil (by omega)]; rfl
        have f4 := ho3.frozenAt (i * 5 + 4)
        have hgl : w1.heap.size ≤ g := (ho3.lt g rfl).1
        have H3 := Lib.hid (And.intro hx3 (And.intro hz3 (And.intro ho3 (And.intro hbw3 (And.intro hL2 hv))))); clear hx3 hz3 ho3 hbw3 hx3' hL2 hv
        go_upto_region 10 with (fail)
        generalize hW4 : World.setCell W3 _ _ = W4
        have hx4 : W4.heap[w.heap.size]? = some (.cells L2.toArray 28 (0, 0)) := by rw [← hW4]; exact (Below.heap_setCell _ _ _ _ (by simp; omega)).trans H3.out.1
        have hz4 : W4.heap[w.heap.size + 1]? = some (.cells rtZ.toArray 28 (0, 0)) := by rw [← hW4]; exact (Below.heap_setCell _ _ _ _ (by simp; omega)).trans H3.out.2.1
        have ho4 := (H3.out.2.2.1.stored (i * 5 + 4) (.int .i64 til)).1
        rw [rfCs_hold R.l i til hil, hW4] at ho4
        have hbw4 : Below w.heap.size w W4 := by rw [← hW4]; exact H3.out.2.2.2.1.setCell (by show w.heap.size ≤ g; omega) _
        clear hW4 x2 y4 f4
        have hTW : W4.there (w.heap.size + 1) 0 L2.toArray.size := there_rowd hz4 (by rw [List.size_toArray, hl9]; exact Nat.le_refl _)
        have hTL : W4.there (w.heap.size + 1) 0 L2.length := by rw [List.size_toArray] at hTW; exact hTW
        have H4 := Lib.hid (And.intro ho4 hbw4); clear ho4 hbw4
        have hz4l := blk_lt hz4
        clear hz4
        go_wp2_with (first | (with_reducible refine wpList_load_mid rfl 28 _ rfl w.heap.size 0 rfl L2 _ (range_rowd hx4) Try.underlying28 rfl hil2 ?_) | (with_reducible refine wpList_store_mid rfl 28 _ _ rfl (w.heap.size + 1) 0 L2.toArray rfl rfl hTW hi2 hone ?_))
        refine bodyPost_ret (results_row2 (cs := L2) rfl rfl (World.rangeAt_setCells_same _ _ _ _ hTL) Try.underlying28 rfl hil2) rfl ?_
        have hbz := H4.out.2.trans (show Below w.heap.size W4 (W4.setCells (w.heap.size + 1) 0 L2) from Lib.below_setCells_w (Nat.le_succ w.heap.size) _ _ _)
        refine ⟨_, rfl, ⟨_, rfl, ?_⟩, hbz⟩
        rw [HR.out]
        refine ⟨.slice (some ⟨g, 0, none⟩) N k, _, _, ?_, ⟨?_, HH.out.2.1.2.2.p.below hbz, HH.out.2.1.2.2.c.below hbz⟩⟩
        · rw [← H3.out.2.2.2.2.2]; rfl
        · have := SlV.own (own_but (g := w.heap.size + 1) H4.out.1 (fun k hk hne => World.heap_setCells_other W4 _ 0 L2 hk hne) hsz)
          simp only [hold1_len]
          rw [← HH.out.2.2.2.2.2.1]
          exact this
end Go.Proofs.Yteamkiblogbfmaa
