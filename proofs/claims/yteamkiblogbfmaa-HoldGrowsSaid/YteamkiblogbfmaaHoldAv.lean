/- Law 50's alive: the document's example. -/
import Derived.Test.YteamkiblogbfmaaHoldW8
import Derived.Test.YteamkiblogbfmaaHoldW9
namespace Go.Proofs.Yteamkiblogbfmaa
open Go.RowKit
set_option linter.unusedVariables false
set_option linter.unusedSimpArgs false
def avR : Pl.Rt := ⟨0, 10, [⟨[109], 1, 1, [], 0⟩, ⟨[109], 2, 2, [], 0⟩], [], ⟨1, 0, 0, 0⟩, []⟩
theorem av_gone : sel true (prs avR) = [⟨[109], 1, 1, [], 0⟩] := by rfl
theorem av_set : Pl.setE avR [109] 1 2000 = 0 := by rfl
def avS : Pl.Rt := ⟨0, 10, [⟨[109], 1, 1, [], 2000⟩, ⟨[109], 2, 2, [], 0⟩], [], ⟨1, 0, 0, 0⟩, []⟩
theorem av_setR : Pl.setR avR [109] 1 2000 = avS := by rfl
theorem av_gone2 : sel true (prs avS) = [] := by rfl
theorem held_any (x : Pl.Rf) (now : Int) (w : World) : Calls Try.prog 20 #[.agg #[.string ⟨x.m.toArray⟩, .int .i64 x.n, .int .i64 x.t, .string ⟨x.nm.toArray⟩, .int .i64 x.til], .int .i64 now] w (RetB (fun v _ => v = .bool (decide (now < x.til))) w) := by
  have hb : ∀ o, Below w.heap.size w (w.alloc o) := fun o => (Below.refl _ _).alloc (Nat.le_refl _) o
  obtain ⟨xm, xn, xt, xnm, t⟩ := x
  go_enter Try.func20, Try.ntmps20
  go_wp2_with fail
  go_ret
  exact ⟨_, rfl, rfl, hb _⟩
theorem av_ok : RtOk avR := ⟨by decide, by decide, by decide, by decide, by decide, by decide, by decide⟩
theorem avS_ok : RtOk avS := ⟨by decide, by decide, by decide, by decide, by decide, by decide, by decide⟩
theorem load_mid_g {P : Program} {ops : Array Oper} {rest : List Oper} {op : Oper} {a : Act} {w : World} {Q : Exit → Act → World → Prop} (hw : Region.wanted op (yielded ops a.tmps) = true) (ty : TypeId) (x : Operand) (ho : op.op = .load ty x)
    (b o : Nat) (hx : a.eval x = .pointer (some ⟨b, o, none⟩)) (cs : List Value) (d : TypeDesc) (hc : w.rangeAt b o cs)
    (hu : P.underlying ty = some d) (hd : d.isRow = true) (hi : (P.info? ty).map (·.size) = some cs.length)
    (h : wpList P ops Q rest (a.put op.dst (.agg cs.toArray)) w) : wpList P ops Q (op :: rest) a w :=
  wpList_step fun K hK => by rw [if_pos hw]; exact wp_load_mid ty x ho b o hx cs d hc hu hd hi (hK _ _ h)
set_option maxRecDepth 100000 in
set_option maxHeartbeats 4000000 in
theorem alive_any (w : World) : Calls Try.prog 10 #[] w (RetB (fun v _ => v = .bool true) w) := by
  have hgone := fun s p c W (h : RtAt W avR s p c) => gone_any avR s p c W (by decide) av_ok h
  have hset := fun s p c W (h : RtAt W avR s p c) => set_any avR s p c [109] 1 2000 W av_ok h
  rw [av_gone] at hgone
  go_enter Try.func10, Try.ntmps10
  go_wp2_with fail
  generalize hW : World.alloc (World.alloc w _) _ = W
  have hbW : Below w.heap.size w W := by rw [← hW]; exact ((Below.refl _ _).alloc (Nat.le_refl _) _).alloc (by simp) _
  have hx : W.heap[w.heap.size]? = some (.cells (rfCs avR.l).toArray 38 (0, 0)) := by rw [← hW]; exact (Below.heap_alloc _ _ _ (by simp)).trans (heap_alloc_new w _)
  have hz : W.heap[w.heap.size + 1]? = some (.cells #[.int .i64 0, .int .i64 10, .slice (some ⟨w.heap.size, 0, none⟩) 2 2, .slice none 0 0, .int .i64 1, .int .i64 0, .int .i64 0, .int .i64 0, .slice none 0 0] 28 (0, 0)) := by rw [← hW]; exact heap_alloc_2 w _ _
  have hrt : RtAt W avR (.slice (some ⟨w.heap.size, 0, none⟩) 2 2) (.slice none 0 0) (.slice none 0 0) := by
    refine ⟨⟨_, _, rfl, ⟨rfl, fun _ => ⟨w.heap.size, 0, rfl, blk_lt hx, fun j hj => ?_⟩⟩, fun h => by cases h⟩, PkV.nil _, SlV.nil _ _⟩
    rw [Nat.zero_add, cell_row W _ j _ _ hx]; simp
  clear hW
  have hsz := blk_lt hz
  obtain ⟨L, hL⟩ : ∃ L : List Value, L = [.int .i64 0, .int .i64 10, .slice (some ⟨w.heap.size, 0, none⟩) 2 2, .slice none 0 0, .int .i64 1, .int .i64 0, .int .i64 0, .int .i64 0, .slice none 0 0] := ⟨_, rfl⟩
  have hif : (Try.prog.info? 28).map (·.size) = some L.length := by rw [hL]; exact info_root
  have hz : W.heap[w.heap.size + 1]? = some (.cells L.toArray 28 (0, 0)) := by rw [hL]; exact hz
  have hv : rtV avR (.slice (some ⟨w.heap.size, 0, none⟩) 2 2) (.slice none 0 0) (.slice none 0 0) = .agg L.toArray := by rw [hL]; rfl
  have hset := hset (.slice (some ⟨w.heap.size, 0, none⟩) 2 2) (.slice none 0 0) (.slice none 0 0)
  rw [hv] at hset
  refine (hgone _ _ _ W hrt).mono ?_
  rintro e w1 ⟨v1, rfl, ho1, hb1⟩
  have hz1 := (hb1.block _ hsz).trans hz
  have hrt1 := hrt.below hb1
  have hbw1 := hbW.trans (hb1.mono hbW.size)
  obtain ⟨g1, k1, hv1⟩ := own_some ho1 (by decide)
  subst hv1
  have e1 : w1.cell? ⟨g1, 1, none⟩ = some (.int .i64 1) := by rw [World.ownsRow.cellAt ho1 1 (by decide)]; rfl
  have hg1 := (World.ownsRow.lt ho1 g1 rfl).2
  clear hgone hb1 hx hz hrt hbW hsz ho1
  have hsz := blk_lt hz1
  have H1 := Lib.hid (And.intro hz1 (And.intro hrt1 hbw1)); clear hz1 hrt1 hbw1
  clear hL hv
  go_upto_region 3 with (fail)
  go_wp2_with (with_reducible refine wpList_load_mid rfl 28 _ rfl (w.heap.size + 1) 0 rfl L _ (range_rowd H1.out.1) Try.underlying28 rfl hif ?_)
  refine (hset w1 H1.out.2.1).mono ?_
  rintro e w2 ⟨v2, rfl, ⟨rv, rfl, hrv⟩, hb2⟩
  rw [av_set]
  rw [av_setR] at hrv
  obtain ⟨s2, p2, c2, rfl, hrt2⟩ := hrv
  have hbw2 := H1.out.2.2.trans (hb2.mono H1.out.2.2.size)
  have e1 := (hb2.cell (p := ⟨g1, 1, none⟩) hg1).trans e1
  have hg1 := Nat.lt_of_lt_of_le hg1 hb2.size
  have hgone := fun s p c W (h : RtAt W avS s p c) => gone_any avS s p c W (by decide) avS_ok h
  rw [av_gone2] at hgone
  obtain ⟨A2, k2, hs2, hr2, -⟩ := hrt2.s
  subst hs2
  have o2 : p2.oneCell' = true := by obtain ⟨sv, -, hp, -⟩ := hrt2.p; exact hp.one
  have o3 : c2.oneCell' = true := hrt2.c.one
  obtain ⟨L2, hL2⟩ : ∃ L2 : List Value, L2 = [.int .i64 0, .int .i64 10, .slice A2 2 k2, p2, .int .i64 1, .int .i64 0, .int .i64 0, .int .i64 0, c2] := ⟨_, rfl⟩
  have hv2 : rtV avS (.slice A2 avS.l.length k2) p2 c2 = .agg L2.toArray := by rw [hL2]; rfl
  rw [hv2]
  have hl9 : L2.length = 9 := by rw [hL2]; rfl
  have hone : L2.toArray.all (·.oneCell') = true := all_oneCell_toArray (by
    rw [hL2]; intro v hv
    simp only [List.mem_cons, List.not_mem_nil, or_false] at hv
    rcases hv with rfl | rfl | rfl | rfl | rfl | rfl | rfl | rfl | rfl
    · rfl
    · rfl
    · rfl
    · exact o2
    · rfl
    · rfl
    · rfl
    · rfl
    · exact o3)
  have hi2 : (Try.prog.info? 28).map (·.size) = some L2.toArray.size := by rw [List.size_toArray, hl9]; exact info_root
  have hil2 : (Try.prog.info? 28).map (·.size) = some L2.length := by rw [hl9]; exact info_root
  have hgone := hgone (.slice A2 avS.l.length k2) p2 c2
  rw [hv2] at hgone
  have hT : (w2.alloc (.cells #[.int .i64 0, .int .i64 0, .slice none 0 0, .slice none 0 0, .int .i64 0, .int .i64 0, .int .i64 0, .int .i64 0, .slice none 0 0] 28)).there w2.heap.size 0 L2.toArray.size := there_rowd (n := L2.toArray.size) (heap_alloc_new w2 _) (by rw [List.size_toArray, hl9]; exact Nat.le_refl _)
  have hr2 : Rd w2 5 A2 2 (rfCs avS.l) := hr2
  have H2 := Lib.hid (And.intro hrt2 (And.intro hbw2 (And.intro hr2 hL2))); clear hset hb2 H1 hsz hrt2 hbw2 hr2 hL2 hv2
  go_upto_region 4 with (with_reducible refine wpList_store_mid rfl 28 _ _ rfl w2.heap.size 0 L2.toArray rfl rfl hT hi2 hone ?_)
  generalize hW3 : World.setCells _ _ _ _ = W3
  have hx3 : W3.heap[w2.heap.size]? = some (.cells L2.toArray 28 (0, 0)) := by rw [← hW3]; exact heap_setCells_all (C := rtZ) (heap_alloc_new w2 _) (by rw [hl9]; rfl)
  have hb3 : Below w2.heap.size w2 W3 := by rw [← hW3]; exact ((Below.refl _ _).alloc (Nat.le_refl _) _).trans (Lib.below_setCells_w (Nat.le_refl _) _ _ _)
  clear hW3 hT
  have e1 := (hb3.cell (p := ⟨g1, 1, none⟩) hg1).trans e1
  have hrt3 := H2.out.1.below hb3
  have hx3l := blk_lt hx3
  have hx3' := hx3
  rw [H2.out.2.2.2] at hx3'
  have hgo := hgone W3 hrt3
  have hr3 := H2.out.2.2.1.below hb3
  have hbw3 := H2.out.2.1.trans (hb3.mono H2.out.2.1.size)
  clear hgone hr2 hz
  go_wp2_with (with_reducible refine load_mid_g (by with_unfolding_all rfl) 28 _ rfl w2.heap.size 0 rfl L2 _ (range_rowd hx3) Try.underlying28 rfl hil2 ?_)
  refine hgo.mono ?_
  rintro e w4 ⟨v4, rfl, ho4, hb4⟩
  obtain ⟨A4, k4, rfl⟩ := own_form' ho4
  obtain ⟨b, off, rfl, hbl, hrf⟩ := (hr3.below hb4).rf (i := 0) rfl (by omega)
  obtain ⟨c0, c1, c2', c3, c4⟩ := hrf _ rfl
  have hx4 := (hb4.block _ hx3l).trans hx3'
  have x2 : w4.cell? ⟨w2.heap.size, 2, none⟩ = some (.slice (some ⟨b, off, none⟩) 2 k2) := cell_row w4 _ 2 _ _ hx4
  have hbw4 := hbw3.trans (hb4.mono hbw3.size)
  have hh1 := fun W => held_any ⟨[109], 1, 1, [], 2000⟩ 1999 W
  have hh2 := fun W => held_any ⟨[109], 1, 1, [], 2000⟩ 2000 W
  simp only [show decide ((1999 : Int) < 2000) = true from rfl, show decide ((2000 : Int) < 2000) = false from rfl] at hh1 hh2
  change w4.cell? ⟨b, off + 0 * 5, none⟩ = some (.string ⟨[109].toArray⟩) at c0
  change w4.cell? ⟨b, off + 0 * 5 + 1, none⟩ = some (.int .i64 1) at c1
  change w4.cell? ⟨b, off + 0 * 5 + 2, none⟩ = some (.int .i64 1) at c2'
  change w4.cell? ⟨b, off + 0 * 5 + 3, none⟩ = some (.string ⟨[].toArray⟩) at c3
  change w4.cell? ⟨b, off + 0 * 5 + 4, none⟩ = some (.int .i64 2000) at c4
  simp only [Nat.zero_mul, Nat.add_zero] at c0 c1 c2' c3 c4
  have H4 := Lib.hid (And.intro hbw4 (And.intro hh1 hh2)); clear hbw4 hh1 hh2 hx4 hrf hgo hr3 hb4 hbw3 hrt3 hb3 hx3 hx3' ho4 e1
  go_wp2_with fail
  refine (H4.out.2.1 w4).mono ?_
  rintro e w5 ⟨v5, rfl, rfl, hb5⟩
  have hx2l := World.block_lt_of_cell? w4 _ x2
  have x2 := (hb5.cell (p := ⟨w2.heap.size, 2, none⟩) hx2l).trans x2
  have c0 := (hb5.cell (p := ⟨b, off, none⟩) hbl).trans c0
  have c1 := (hb5.cell (p := ⟨b, off + 1, none⟩) hbl).trans c1
  have c2' := (hb5.cell (p := ⟨b, off + 2, none⟩) hbl).trans c2'
  have c3 := (hb5.cell (p := ⟨b, off + 3, none⟩) hbl).trans c3
  have c4 := (hb5.cell (p := ⟨b, off + 4, none⟩) hbl).trans c4
  have hbw5 := H4.out.1.trans (hb5.mono H4.out.1.size)
  clear hb5
  go_wp2_with fail
  refine (H4.out.2.2 w5).mono ?_
  rintro e w6 ⟨v6, rfl, rfl, hb6⟩
  have hbw6 := hbw5.trans (hb6.mono hbw5.size)
  clear hb6 x2 c0 c1 c2' c3 c4
  go_wp2_with fail
  go_ret
  exact ⟨_, rfl, rfl, hbw6⟩
end Go.Proofs.Yteamkiblogbfmaa
