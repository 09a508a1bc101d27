/- The walk of the document's parts: the snapshots that are kept, and those that may go; its Gone, its Trim. -/
import Derived.Maps.AppendAt
import Derived.Test.YteamkiblogbfmaaHoldW7
import Derived.Test.YteamkiblogbfmaaHoldW5
namespace Go.Proofs.Yteamkiblogbfmaa
open Go.RowKit
set_option linter.unusedVariables false
set_option linter.unusedSimpArgs false
def ApartV (u v : Value) : Prop := ∀ g, u.ownBlock = some g → v.ownBlock ≠ some g
/-- append of one snapshot to a row of the call's own, beside another row. -/
theorem push_rf {ops : Array Oper} {rest : List Oper} {o : Oper} {a : Act} {Q : Exit → Act → World → Prop} (hgd : o.guard = none) (s x : Operand)
    (ho : o.op = .call { callee := .builtin .append, args := #[s, x], argTypes := #[22, 22] })
    (base : Nat) (hi : (Try.prog.info? 38).map (fun i => (i.zero, i.size, i.bytes)) = some (some (.agg #[.string ⟨#[]⟩, .int .i64 0, .int .i64 0, .string ⟨#[]⟩, .int .i64 0]), 5, 56))
    (w : World) (v u : Value) (n m : Nat) (xs ys : List Value) (y0 y1 y2 y3 y4 : Value) (hs : a.eval s = v) (hown : w.ownsRow base 38 5 v n xs) (hu : w.ownsRow base 38 5 u m ys) (hap : ApartV u v) (hx : a.eval x = .slice (some ⟨w.heap.size, 0, none⟩) 1 1)
    (h1 : ∀ u ∈ [y0, y1, y2, y3, y4], u.oneCell' = true) (hbytes : (n + 1) * 56 ≤ 140737488355328) (hbase : base ≤ w.heap.size)
    (h : ∀ v' w', w'.ownsRow base 38 5 v' (n + 1) (xs ++ [y0, y1, y2, y3, y4]) → w'.ownsRow base 38 5 u m ys → ApartV u v' → Below base w w' → wpList Try.prog ops Q rest (a.put o.dst v') w') :
    wpList Try.prog ops Q (o :: rest) a (w.alloc (.cells #[y0, y1, y2, y3, y4] 38)) := by
  obtain ⟨i0, hi0, hz0, hz1, hz2⟩ := info_parts hi
  have hb : Below w.heap.size w (w.alloc (.cells #[y0, y1, y2, y3, y4] 38)) := (Below.refl _ _).alloc (Nat.le_refl _) _
  refine wpList_append_own_at _ hgd s x 22 ho base 38 i0 _ 5 56 Try.underlying22 hi0 hz0 hz1 hz2 rfl (by decide) v n xs hs (hown.alloc _) ⟨w.heap.size, 0, none⟩ 1 1 [y0, y1, y2, y3, y4] hx rfl ?_ h1 (by simp [maxLen]; omega) hbytes (by simp; omega) ?_
  · intro j u hj
    rw [addr_add, Nat.zero_add, cell_row _ _ j _ _ (heap_alloc_new w _)]
    simpa using hj
  · intro v' w' h2 h3 _ h4
    refine h v' w' h2 ?_ ?_ ?_
    · refine (hu.alloc _).kept h3 ?_
      cases hub : u.ownBlock with
      | none => exact .inl rfl
      | some g => exact .inr (fun e => hap g hub e.symm)
    · intro g hg
      rcases h4 with h4 | h4
      · rw [h4]; exact hap g hg
      · rw [h4]
        intro e
        injection e with e
        have := (hu.lt g hg).2
        simp at e
        omega
    · exact ((Below.refl _ _).alloc hbase _).trans (below_own (hown.alloc _) h3 (by simp; omega))
def PartsOut (R : Pl.Rt) (B : Nat) (v : Value) (w' : World) : Prop := ∃ s g, v = .tuple #[s, g] ∧ RefsOut B (sel false (prs R)) s w' ∧ RefsOut B (sel true (prs R)) g w'
def PtR (R : Pl.Rt) (B : Nat) (w : World) (s g i : Value) (wr : World) : Prop := ∃ j : Nat, j ≤ R.l.length ∧ i = .int .i64 j ∧ RefsOut B (sel false ((prs R).take j)) s wr ∧ RefsOut B (sel true ((prs R).take j)) g wr ∧ ApartV s g ∧ Below B w wr
set_option maxRecDepth 100000 in
set_option maxHeartbeats 4000000 in
theorem parts_any (R : Pl.Rt) (s p c : Value) (w : World) (hl60 : R.l.length ≤ 60) (hok : RtOk R) (h : RtAt w R s p c) : Calls Try.prog 26 #[rtV R s p c] w (RetB (PartsOut R w.heap.size) w) := by
  obtain ⟨A, k, rfl, hr, -⟩ := h.s
  have hkeep := fun W (hb : Below w.heap.size w W) => rkeep_any R.p A R.l.length k R.l R.now W rfl (by omega) (hr.below hb) (fun x hx => (hok.fit x hx).1)
  have hpc : polV R.p = .agg #[.int .i64 R.p.d, .int .i64 R.p.w, .int .i64 R.p.mo, .int .i64 R.p.y] := rfl
  rw [hpc] at hkeep
  obtain ⟨r0, hr0⟩ : ∃ x, x = R.n := ⟨_, rfl⟩
  obtain ⟨r1, hr1⟩ : ∃ x, x = R.now := ⟨_, rfl⟩
  obtain ⟨r2, hr2⟩ : ∃ x, x = R.p.d := ⟨_, rfl⟩
  obtain ⟨r3, hr3⟩ : ∃ x, x = R.p.w := ⟨_, rfl⟩
  obtain ⟨r4, hr4⟩ : ∃ x, x = R.p.mo := ⟨_, rfl⟩
  obtain ⟨r5, hr5⟩ : ∃ x, x = R.p.y := ⟨_, rfl⟩
  unfold rtV
  rw [← hr0, ← hr1, ← hr2, ← hr3, ← hr4, ← hr5]
  rw [← hr2, ← hr3, ← hr4, ← hr5] at hkeep
  obtain ⟨N, hN⟩ : ∃ N, N = R.l.length := ⟨_, rfl⟩
  obtain ⟨K, hK⟩ : ∃ K, K = Pl.keepD R.p R.l R.now := ⟨_, rfl⟩
  rw [← hN, ← hK, ← hr1] at hkeep
  rw [← hN] at hr hl60 ⊢
  have HH := Lib.hid (And.intro hkeep (And.intro hr (And.intro hN hK)))
  have HI := Lib.hid info_rf
  clear hkeep hr hN hK hr0 hr1 hr2 hr3 hr4 hr5 h hpc
  go_enter Try.func26, Try.ntmps26
  go_upto_region 1 with (fail)
  generalize hW : World.alloc w _ = W
  have hbW : Below w.heap.size w W := by rw [← hW]; exact (Below.refl _ _).alloc (Nat.le_refl _) _
  have hx : W.heap[w.heap.size]? = some (.cells #[.int .i64 r0, .int .i64 r1, .slice A N k, p, .int .i64 r2, .int .i64 r3, .int .i64 r4, .int .i64 r5, c] 28 (0, 0)) := by rw [← hW]; exact heap_alloc_new w _
  have hsz := blk_lt hx
  have x1 : W.cell? ⟨w.heap.size, 1, none⟩ = some (.int .i64 r1) := cell_row W _ 1 _ _ hx
  have x2 : W.cell? ⟨w.heap.size, 2, none⟩ = some (.slice A N k) := cell_row W _ 2 _ _ hx
  have x4 : W.cell? ⟨w.heap.size, 4, none⟩ = some (.int .i64 r2) := cell_row W _ 4 _ _ hx
  have x5 : W.cell? ⟨w.heap.size, 5, none⟩ = some (.int .i64 r3) := cell_row W _ 5 _ _ hx
  have x6 : W.cell? ⟨w.heap.size, 6, none⟩ = some (.int .i64 r4) := cell_row W _ 6 _ _ hx
  have x7 : W.cell? ⟨w.heap.size, 7, none⟩ = some (.int .i64 r5) := cell_row W _ 7 _ _ hx
  clear hW
  have HW := Lib.hid (And.intro hbW hx); clear hbW hx
  go_wp2_with fail
  refine (HH.out.1 W HW.out.1).mono ?_
  rintro e w1 ⟨v, rfl, ⟨AK, cK, rfl, hrk⟩, hb1⟩
  have hx1 := (hb1.block _ hsz).trans HW.out.2
  have hbw1 := HW.out.1.trans (hb1.mono HW.out.1.size)
  clear hb1 HW x1 x2 x4 x5 x6 x7 hsz
  have hsz := blk_lt hx1
  have H1 := Lib.hid (And.intro hrk (And.intro hx1 hbw1)); clear hrk hx1 hbw1
  go_wp2_with fail
  go_loopw [5, 6, 7] (PtR R w1.heap.size w1) (fun _ _ i _ => N - (intOf i).toNat)
  case atStart => exact ⟨0, by omega, rfl, World.ownsRow_nil _ _ _ _, World.ownsRow_nil _ _ _ _, (fun g hg => by simp [Value.ownBlock] at hg), Below.refl _ _⟩
  case round =>
    obtain ⟨j, hj, rfl, hs, hg, hap, hb⟩ := hrel
    rw [← HH.out.2.2.1] at hj
    have hx := (hb.block _ hsz).trans H1.out.2.1
    have x2 : wr.cell? ⟨w.heap.size, 2, none⟩ = some (.slice A N k) := cell_row wr _ 2 _ _ hx
    have hxl := blk_lt hx
    have hsb := hb.size
    by_cases hjn : j < N
    · have hjl : j < R.l.length := by rw [← HH.out.2.2.1]; exact hjn
      obtain ⟨b, off, rfl, hbw, hrf⟩ := (HH.out.2.1.below (H1.out.2.2.trans (hb.mono H1.out.2.2.size))).rf HH.out.2.2.1.symm hjn
      obtain ⟨y, hy⟩ : ∃ y, R.l.getD j default = y := ⟨_, rfl⟩
      obtain ⟨c0, c1, c2, c3, c4⟩ := hrf y hy
      have htk := prs_take R j hjl
      have hKj := keepD_get R.p R.l R.now j hjl
      rw [hy] at htk hKj
      obtain ⟨bk, ok, rfl, hbk, hck0⟩ := (H1.out.1.below hb).at1 hjn
      rw [HH.out.2.2.2, List.getElem?_eq_getElem (by rw [bools_len, Pl.keepD_len]; exact hjl)] at hck0
      obtain ⟨q, hq⟩ : ∃ q, keepF R.p R.l R.now y = q := ⟨_, rfl⟩
      have hck : wr.cell? ⟨bk, ok + j, none⟩ = some (.bool q) := by
        rw [hck0, ← hq, ← hKj]
        have := bools_get (Pl.keepD R.p R.l R.now) j (by rw [Pl.keepD_len]; exact hjl)
        rw [← this]
        simp
      clear hck0
      rw [hq] at htk
      obtain ⟨ym, yn, yt, ynm, ytil⟩ := y
      simp only at c0 c1 c2 c3 c4
      have j0 : (0 : Int) ≤ (j : Int) := by omega
      have j1 : (j : Int) < (N : Int) := by omega
      have l1 := sel_len false ((prs R).take j)
      have l2 := sel_len true ((prs R).take j)
      have l3 : ((prs R).take j).length ≤ j := List.length_take_le _ _
      obtain ⟨A5, k5, rfl⟩ := own_form' hs
      obtain ⟨A6, k6, rfl⟩ := own_form' hg
      have h1 := rfC_one ⟨ym, yn, yt, ynm, ytil⟩
      have HQ := Lib.hid (And.intro hs (And.intro hg (And.intro hap (And.intro hb (And.intro hx (And.intro htk h1)))))); clear hs hg hap hb hx htk h1 hKj hy hrf
      cases q
      · go_wp2_with (at_builtin; refine push_rf rfl (.tmp 34) (.tmp 40) rfl w1.heap.size HI.out _ (.slice A6 (sel true ((prs R).take j)).length k6) (.slice A5 (sel false ((prs R).take j)).length k5) _ _ _ _ (.string ⟨ym.toArray⟩) (.int .i64 yn) (.int .i64 yt) (.string ⟨ynm.toArray⟩) (.int .i64 ytil) rfl HQ.out.2.1 HQ.out.1 HQ.out.2.2.1 rfl HQ.out.2.2.2.2.2.2 (by omega) hsb ?_; intro v2 w2 hown2 hu2 hap2 hb2; obtain ⟨A7, k7, rfl⟩ := own_form' hown2)
        refine ⟨⟨j + 1, by rw [← HH.out.2.2.1]; omega, rfl, ?_, ?_, hap2, HQ.out.2.2.2.1.trans hb2⟩, by simp [intOf]; omega⟩
        · rw [HQ.out.2.2.2.2.2.1, sel_miss false _ _ (by simp)]; exact hu2
        · rw [HQ.out.2.2.2.2.2.1, sel_hit true _ _ (by simp)]
          unfold RefsOut
          rw [rfCs_append]
          simpa [rfCs, rfC] using hown2
      · go_wp2_with (at_builtin; refine push_rf rfl (.tmp 26) (.tmp 32) rfl w1.heap.size HI.out _ (.slice A5 (sel false ((prs R).take j)).length k5) (.slice A6 (sel true ((prs R).take j)).length k6) _ _ _ _ (.string ⟨ym.toArray⟩) (.int .i64 yn) (.int .i64 yt) (.string ⟨ynm.toArray⟩) (.int .i64 ytil) rfl HQ.out.1 HQ.out.2.1 (fun g hg he => HQ.out.2.2.1 g he hg) rfl HQ.out.2.2.2.2.2.2 (by omega) hsb ?_; intro v2 w2 hown2 hu2 hap2 hb2; obtain ⟨A7, k7, rfl⟩ := own_form' hown2)
        refine ⟨⟨j + 1, by rw [← HH.out.2.2.1]; omega, rfl, ?_, ?_, (fun g hg he => hap2 g he hg), HQ.out.2.2.2.1.trans hb2⟩, by simp [intOf]; omega⟩
        · rw [HQ.out.2.2.2.2.2.1, sel_hit false _ _ (by simp)]
          unfold RefsOut
          rw [rfCs_append]
          simpa [rfCs, rfC] using hown2
        · rw [HQ.out.2.2.2.2.2.1, sel_miss true _ _ (by simp)]; exact hu2
    · obtain rfl : j = N := by omega
      have htk : (prs R).take j = prs R := List.take_of_length_le (by rw [prs_len, ← HH.out.2.2.1]; exact Nat.le_refl _)
      rw [htk] at hs hg
      have HQ := Lib.hid (And.intro hs (And.intro hg (And.intro hap (And.intro hb hx)))); clear hs hg hap hb hx htk
      go_wp2_with fail
      go_ret2
      exact ⟨_, rfl, ⟨_, _, rfl, own_weak HQ.out.1 (Nat.le_trans H1.out.2.2.size (Nat.le_refl _)), own_weak HQ.out.2.1 H1.out.2.2.size⟩, H1.out.2.2.trans (HQ.out.2.2.2.1.mono H1.out.2.2.size)⟩
set_option maxRecDepth 100000 in
theorem rgone_any (R : Pl.Rt) (s p c : Value) (w : World) (hl60 : R.l.length ≤ 60) (hok : RtOk R) (h : RtAt w R s p c) : Calls Try.prog 19 #[rtV R s p c] w (RetB (RefsOut w.heap.size (sel true (prs R))) w) := by
  have hp := fun W (hb : Below w.heap.size w W) => parts_any R s p c W hl60 hok (h.below hb)
  have hb0 : ∀ o, Below w.heap.size w (w.alloc o) := fun o => (Below.refl _ _).alloc (Nat.le_refl _) o
  unfold rtV at hp ⊢
  go_enter Try.func19, Try.ntmps19
  go_wp2_with fail
  refine (hp _ (hb0 _)).mono ?_
  rintro e w1 ⟨v, rfl, ⟨sv, gv, rfl, hs, hg⟩, hb1⟩
  have hbb := (hb0 (.cells #[.int .i64 R.n, .int .i64 R.now, s, p, .int .i64 R.p.d, .int .i64 R.p.w, .int .i64 R.p.mo, .int .i64 R.p.y, c] 28)).trans (hb1.mono (by simp))
  have hg' := own_weak hg (base' := w.heap.size) (by simp)
  clear hp hb0
  go_wp2_with fail
  go_ret
  exact ⟨_, rfl, hg', hbb⟩
/-- What the document's Trim returns: the snapshots are a row of its own, all else is the argument's. -/
def RtKeep (R : Pl.Rt) (B : Nat) (p c : Value) (v : Value) (w' : World) : Prop := ∃ s, v = rtV R s p c ∧ w'.ownsRow B 38 5 s R.l.length (rfCs R.l)
set_option maxRecDepth 100000 in
set_option maxHeartbeats 2000000 in
theorem rtrim_own (R : Pl.Rt) (s p c : Value) (w : World) (hl60 : R.l.length ≤ 60) (hok : RtOk R) (h : RtAt w R s p c) : Calls Try.prog 18 #[rtV R s p c] w (RetB (RtKeep { R with l := sel false (prs R) } w.heap.size p c) w) := by
  have hp := fun W (hb : Below w.heap.size w W) => parts_any R s p c W hl60 hok (h.below hb)
  have o1 : s.oneCell' = true := h.s.one
  have o2 : p.oneCell' = true := by obtain ⟨sv, -, hp, -⟩ := h.p; exact hp.one
  have o3 : c.oneCell' = true := h.c.one
  obtain ⟨A, k, hsA, -, -⟩ := h.s
  have Hh := Lib.hid h; clear h
  subst hsA
  unfold rtV at hp ⊢
  go_enter Try.func18, Try.ntmps18
  go_upto_region 1 with (fail)
  generalize hW : World.alloc (World.alloc w _) _ = W
  have hbW : Below w.heap.size w W := by rw [← hW]; exact ((Below.refl _ _).alloc (Nat.le_refl _) _).alloc (by simp) _
  obtain ⟨L, hL⟩ : ∃ L : List Value, L = [.int .i64 R.n, .int .i64 R.now, .slice A R.l.length k, p, .int .i64 R.p.d, .int .i64 R.p.w, .int .i64 R.p.mo, .int .i64 R.p.y, c] := ⟨_, rfl⟩
  have hx : W.heap[w.heap.size]? = some (.cells L.toArray 28 (0, 0)) := by rw [← hW, hL]; exact (Below.heap_alloc _ _ _ (by simp)).trans (heap_alloc_new w _)
  have hz : W.heap[w.heap.size + 1]? = some (.cells rtZ.toArray 28 (0, 0)) := by rw [← hW]; exact heap_alloc_2 w _ _
  have hsz := blk_lt hz
  have hif : (Try.prog.info? 28).map (·.size) = some L.length := by rw [hL]; exact info_root
  have hcp : Calls Try.prog 26 #[.agg L.toArray] W (RetB (PartsOut R W.heap.size) W) := by rw [hL]; exact hp W hbW
  have HW := Lib.hid (And.intro hbW (And.intro hz hL)); clear hbW hz hL hW hp
  go_wp2_with (with_reducible refine wpList_load_mid rfl 28 _ rfl w.heap.size 0 rfl L _ (range_rowd hx) Try.underlying28 rfl hif ?_)
  refine hcp.mono ?_
  rintro e w2 ⟨v, rfl, ⟨sv, gv, rfl, hs, hg⟩, hb2⟩
  clear hcp
  have hx2 := (hb2.block _ (by omega)).trans hx
  have hz2 := (hb2.block _ hsz).trans HW.out.2.1
  have hbw2 := HW.out.1.trans (hb2.mono HW.out.1.size)
  have hx2' := hx2
  rw [HW.out.2.2] at hx2'
  have x2 : w2.cell? ⟨w.heap.size, 2, none⟩ = some (.slice A R.l.length k) := cell_row w2 _ 2 _ _ hx2'
  have f2 := frozen_of w2 w.heap.size 2 _ _ hx2'
  obtain ⟨A4, c4, rfl⟩ := own_form' hs
  have H2 := Lib.hid (And.intro hs (And.intro hx2' (And.intro hz2 hbw2))); clear hs hg hb2 hx hx2 hx2' hz2 hbw2
  go_upto_region 3 with (fail)
  generalize hW4 : World.setCell w2 _ _ = W4
  obtain ⟨L3, hL3⟩ : ∃ L3 : List Value, L3 = [.int .i64 R.n, .int .i64 R.now, .slice A4 (sel false (prs R)).length c4, p, .int .i64 R.p.d, .int .i64 R.p.w, .int .i64 R.p.mo, .int .i64 R.p.y, c] := ⟨_, rfl⟩
  have hx4 := set_at w2 w.heap.size 2 _ (.slice A4 (sel false (prs R)).length c4) _ H2.out.2.1
  have hx4 : W4.heap[w.heap.size]? = some (.cells L3.toArray 28 (0, 0)) := by rw [← hW4, hL3]; simpa using hx4
  have hbw4 : Below w.heap.size w W4 := by rw [← hW4]; exact H2.out.2.2.2.setCell (Nat.le_refl _) _
  have hrow4 : W4.ownsRow W.heap.size 38 5 (.slice A4 (sel false (prs R)).length c4) (sel false (prs R)).length (rfCs (sel false (prs R))) := by rw [← hW4]; exact own_other H2.out.1 (by omega) 2 _
  have hz4 : W4.heap[w.heap.size + 1]? = some (.cells rtZ.toArray 28 (0, 0)) := by rw [← hW4]; exact (Below.heap_setCell _ _ _ _ (by simp)).trans H2.out.2.2.1
  clear hW4
  have hl93 : L3.length = 9 := by rw [hL3]; rfl
  have hone3 : L3.toArray.all (·.oneCell') = true := all_oneCell_toArray (by
    rw [hL3]; intro v hv
    simp only [List.mem_cons, List.not_mem_nil, or_false] at hv
    rcases hv with rfl | rfl | rfl | rfl | rfl | rfl | rfl | rfl | rfl
    · rfl
    · rfl
    · rfl
    · exact o2
    · rfl
    · rfl
    · rfl
    · rfl
    · exact o3)
  have hTW : W4.there (w.heap.size + 1) 0 L3.toArray.size := there_rowd hz4 (by rw [List.size_toArray, hl93]; exact Nat.le_refl _)
  have hTL : W4.there (w.heap.size + 1) 0 L3.length := by rw [List.size_toArray] at hTW; exact hTW
  have hi3 : (Try.prog.info? 28).map (·.size) = some L3.toArray.size := by rw [List.size_toArray, hl93]; exact info_root
  have hil3 : (Try.prog.info? 28).map (·.size) = some L3.length := by rw [hl93]; exact info_root
  have H4 := Lib.hid (And.intro hbw4 (And.intro hrow4 hL3)); clear hbw4 hrow4 hL3 hz4
  go_wp2_with (first | (with_reducible refine wpList_load_mid rfl 28 _ rfl w.heap.size 0 rfl L3 _ (range_rowd hx4) Try.underlying28 rfl hil3 ?_) | (with_reducible refine wpList_store_mid rfl 28 _ _ rfl (w.heap.size + 1) 0 L3.toArray rfl rfl hTW hi3 hone3 ?_))
  refine bodyPost_ret (results_row (cs := L3) rfl rfl (World.rangeAt_setCells_same _ _ _ _ hTL) Try.underlying28 rfl hil3) rfl ?_
  have hbz := H4.out.1.trans (show Below w.heap.size W4 (W4.setCells (w.heap.size + 1) 0 L3) from Lib.below_setCells_w (Nat.le_succ w.heap.size) _ _ _)
  refine ⟨_, rfl, ⟨.slice A4 (sel false (prs R)).length c4, ?_, ?_⟩, hbz⟩
  · rw [H4.out.2.2]; rfl
  · exact own_weak (own_but (g := w.heap.size + 1) H4.out.2.1 (fun k hk hne => World.heap_setCells_other W4 _ 0 L3 hk hne) hsz) HW.out.1.size
theorem rtrim_any (R : Pl.Rt) (s p c : Value) (w : World) (hl60 : R.l.length ≤ 60) (hok : RtOk R) (h : RtAt w R s p c) : Calls Try.prog 18 #[rtV R s p c] w (RetB (RootV { R with l := sel false (prs R) }) w) := by
  refine (rtrim_own R s p c w hl60 hok h).mono ?_
  rintro e w' ⟨v, h1, ⟨s', h2, h3⟩, h4⟩
  exact ⟨v, h1, ⟨s', p, c, h2, SlV.own h3, h.p.below h4, h.c.below h4⟩, h4⟩
end Go.Proofs.Yteamkiblogbfmaa
