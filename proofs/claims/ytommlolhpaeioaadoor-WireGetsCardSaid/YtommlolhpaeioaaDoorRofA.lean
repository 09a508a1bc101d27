/- The walk of the document's Of of snapshots: it tells what manifest's Of tells. -/
import Derived.Test.YtommlolhpaeioaaDoorMfRbW
import Derived.Test.YtommlolhpaeioaaDoorOfA
namespace Go.Proofs.YtommlolhpaeioaaDoor
open Go.RowKit
set_option linter.unusedVariables false
set_option linter.unusedSimpArgs false
attribute [local go_sem] ba_get ba_cut ba_add
theorem rtexts_of (b0 : List UInt8) (l : List (List UInt8)) (e : Nat) (h : Pl.texts b0 = (l, e)) (w : World) (hs : b0.length ≤ 1099511627776) :
    Calls Tryd.prog 66 #[.string ⟨b0.toArray⟩] w fun en w' => ∃ A c, en = .returned (.tuple #[.slice A l.length c, .int .i64 e]) ∧ Rd w' 1 A l.length (strs l) ∧ Below w.heap.size w w' := by
  refine (rtexts_any b0 w hs).mono ?_
  rintro en w' ⟨v, rfl, ⟨sv, rfl, hown⟩, hb⟩
  rw [h] at hown ⊢
  simp only at hown ⊢
  obtain ⟨A, c, hv⟩ : ∃ A c, sv = .slice A l.length c := by
    rcases hown.2 with ⟨h1, h2⟩ | ⟨g, cap, cur, h1, _⟩
    · exact ⟨none, 0, by rw [h1, h2]⟩
    · exact ⟨_, cap, h1⟩
  subst hv
  exact ⟨A, c, rfl, Rd.own hown, hb⟩
/-- The k-th of the three slices. -/
def cxV (X : Cx) : Nat → Value
  | 0 => .slice X.A0 X.n0 X.k0
  | 1 => .slice X.A1 X.n1 X.k1
  | _ => .slice X.A2 X.n2 X.k2
def cxSet (X : Cx) (A : Option Addr) (n c : Nat) : Nat → Cx
  | 0 => { X with A0 := A, n0 := n, k0 := c }
  | 1 => { X with A1 := A, n1 := n, k1 := c }
  | _ => { X with A2 := A, n2 := n, k2 := c }
theorem cxV_set (X : Cx) (A : Option Addr) (n c : Nat) {k : Nat} (hk : k < 3) : cxV (cxSet X A n c k) k = .slice A n c := by
  rcases (show k = 0 ∨ k = 1 ∨ k = 2 by omega) with rfl | rfl | rfl <;> rfl
theorem cxV_oth (X : Cx) (A : Option Addr) (n c : Nat) {k i : Nat} (hk : k < 3) (hi : i < 3) (h : i ≠ k) : cxV (cxSet X A n c k) i = cxV X i := by
  rcases (show k = 0 ∨ k = 1 ∨ k = 2 by omega) with rfl | rfl | rfl <;> rcases (show i = 0 ∨ i = 1 ∨ i = 2 by omega) with rfl | rfl | rfl <;> first | rfl | exact absurd rfl h
theorem snL_set (s : Pl.Snap) (X : Cx) (A : Option Addr) (n c : Nat) {k : Nat} (hk : k < 3) : (snL s X).set (6 + k) (.slice A n c) = snL s (cxSet X A n c k) := by
  rcases (show k = 0 ∨ k = 1 ∨ k = 2 by omega) with rfl | rfl | rfl <;> rfl
theorem snL_get (s : Pl.Snap) (X : Cx) {k : Nat} (hk : k < 3) : (snL s X)[6 + k]? = some (cxV X k) := by
  rcases (show k = 0 ∨ k = 1 ∨ k = 2 by omega) with rfl | rfl | rfl <;> rfl
theorem own_cap {w : World} {base m : Nat} {e : TypeId} {A : Option Addr} {n c : Nat} {xs : List Value} (h : w.ownsRow base e 1 (.slice A n c) m xs) : n = m := by
  rcases h.2 with ⟨h1, h2⟩ | ⟨g, cap, cur, h1, _⟩
  · injection h1 with _ h1; omega
  · injection h1
theorem grown_trans {a b c : World} {r : Option Nat} (h1 : a.grownBy b r) (h2 : b.grownBy c r) : a.grownBy c r :=
  ⟨h2.os.trans h1.os, h2.tape.trans h1.tape, h2.output.trans h1.output, Nat.le_trans h1.size h2.size, fun i hi hne => (h2.block i (Nat.lt_of_lt_of_le hi h1.size) hne).trans (h1.block i hi hne)⟩
theorem grown_below {a b c : World} {r : Option Nat} {B : Nat} (h1 : a.grownBy b r) (hb : Below B b c) (hB : a.heap.size ≤ B) : a.grownBy c r :=
  ⟨hb.os.trans h1.os, hb.tape.trans h1.tape, hb.output.trans h1.output, Nat.le_trans h1.size hb.size, fun i hi hne => (hb.block i (Nat.lt_of_lt_of_le hi hB)).trans (h1.block i hi hne)⟩
theorem grown_set {a b : World} {H : Nat} (h1 : a.grownBy b (some H)) (i : Nat) (u : Value) : a.grownBy (b.setCell ⟨H, i, none⟩ u) (some H) :=
  ⟨h1.os, h1.tape, h1.output, by rw [World.size_setCell]; exact h1.size, fun k hk hne => (Below.heap_setCell _ _ _ _ (by intro e; exact hne (by rw [e]))).trans (h1.block k hk hne)⟩
theorem grown_refl (a : World) (r : Option Nat) : a.grownBy a r := ⟨rfl, rfl, rfl, Nat.le_refl _, fun _ _ _ => rfl⟩
def rowC (l : List (List UInt8)) (k i : Nat) : List (List UInt8) := if i < k then Pl.namesB (l.getD (7 + i) []) else []
/-- What stands when k rows are read: the snapshot's block, the rows. -/
structure RAll (H : Nat) (l : List (List UInt8)) (s : Pl.Snap) (k : Nat) (X : Cx) (wc W : World) : Prop where
  z : W.heap[H]? = some (.cells (snL s X).toArray 28 (0, 0))
  g : wc.grownBy W (some H)
  rows : ∀ i, i < 3 → W.ownsRow wc.heap.size 9 1 (cxV X i) (rowC l k i).length (strs (rowC l k i))
  nil : ∀ i, k ≤ i → i < 3 → cxV X i = .slice none 0 0
/-- .. and j names of the k-th. -/
structure RIn (H : Nat) (x : List UInt8) (s : Pl.Snap) (k j : Nat) (Y X : Cx) (wk W : World) : Prop where
  z : W.heap[H]? = some (.cells (snL s X).toArray 28 (0, 0))
  g : wk.grownBy W (some H)
  own : W.ownsRow wk.heap.size 9 1 (cxV X k) j (strs (Pl.namesK j x))
  oth : ∀ i, i < 3 → i ≠ k → cxV X i = cxV Y i
theorem RIn.start {H k : Nat} {l : List (List UInt8)} {s : Pl.Snap} {X : Cx} {wc W : World} (h : RAll H l s k X wc W) (hk : k < 3) (x : List UInt8) : RIn H x s k 0 X X W W :=
  ⟨h.z, grown_refl _ _, by rw [h.nil k (Nat.le_refl _) hk]; exact World.ownsRow_nil _ _ _ _, fun _ _ _ => rfl⟩
theorem RIn.stop {H k j : Nat} {l : List (List UInt8)} {s : Pl.Snap} {X Y : Cx} {wc wk W : World} (h : RAll H l s k Y wc wk) (hi : RIn H (l.getD (7 + k) []) s k j Y X wk W) (hk : k < 3) (hH : H < wc.heap.size) (hj : j = (l.getD (7 + k) []).length / 32) : RAll H l s (k + 1) X wc W := by
  refine ⟨hi.z, grown_trans h.g hi.g, fun i h3 => ?_, fun i h1 h3 => by rw [hi.oth i h3 (by omega)]; exact h.nil i (by omega) h3⟩
  by_cases hik : i = k
  · subst hik
    have e : rowC l (i + 1) i = Pl.namesK j (l.getD (7 + i) []) := by unfold rowC; rw [if_pos (by omega), hj]; rfl
    rw [e, Pl.namesK_len]
    exact hi.own.mono h.g.size
  · rw [hi.oth i h3 hik]
    have e : rowC l (k + 1) i = rowC l k i := by
      unfold rowC
      by_cases h1 : i < k
      · rw [if_pos h1, if_pos (by omega)]
      · rw [if_neg h1, if_neg (by omega)]
    rw [e]
    refine (h.rows i h3).kept hi.g ?_
    cases hb : (cxV Y i).ownBlock with
    | none => exact .inl rfl
    | some g => exact .inr (by intro e'; injection e' with e'; have := ((h.rows i h3).lt g hb).1; omega)
theorem RIn.step {H k j c : Nat} {x t : List UInt8} {s : Pl.Snap} {X Y : Cx} {wk W w2 : World} {A : Option Addr} (h : RIn H x s k j Y X wk W) (hk : k < 3) (hH : H < wk.heap.size) (hb : Below wk.heap.size W w2)
    (hown : w2.ownsRow wk.heap.size 9 1 (.slice A (j + 1) c) (j + 1) (strs (Pl.namesK j x) ++ [.string ⟨t.toArray⟩])) (ht : strs (Pl.namesK (j + 1) x) = strs (Pl.namesK j x) ++ [.string ⟨t.toArray⟩]) :
    RIn H x s k (j + 1) Y (cxSet X A (j + 1) c k) wk (w2.setCell ⟨H, 6 + k, none⟩ (.slice A (j + 1) c)) := by
  refine ⟨?_, grown_set (grown_below h.g hb (Nat.le_refl _)) _ _, ?_, fun i h3 hne => by rw [cxV_oth _ _ _ _ hk h3 hne]; exact h.oth i h3 hne⟩
  · have := set_at w2 H (6 + k) _ (.slice A (j + 1) c) _ ((hb.block H hH).trans h.z)
    rw [List.setIfInBounds_toArray, snL_set _ _ _ _ _ hk] at this
    exact this
  · rw [cxV_set _ _ _ _ hk, ht]
    exact own_set hown hH _ _
theorem build_sn7 (m : List UInt8) (n a c p b : Int) (d : List UInt8) (hd : d.length = 32) (w : World) :
    (Instr.build 28 #[(0, .string ⟨m.toArray⟩), (1, .int .i64 n), (2, .int .i64 a), (3, .int .u64 c), (4, .int .i64 p), (5, .int .i64 b), (7, .agg (byC d).toArray)]).run Tryd.prog w = .ok (.agg (snL ⟨m, n, a, c, p, b, [], [], [], d⟩ cx0).toArray) w := by
  obtain ⟨c0, c1, c2, c3, c4, c5, c6, c7, c8, c9, c10, c11, c12, c13, c14, c15, c16, c17, c18, c19, c20, c21, c22, c23, c24, c25, c26, c27, c28, c29, c30, c31, rfl⟩ : ∃ c0 c1 c2 c3 c4 c5 c6 c7 c8 c9 c10 c11 c12 c13 c14 c15 c16 c17 c18 c19 c20 c21 c22 c23 c24 c25 c26 c27 c28 c29 c30 c31, d = [c0, c1, c2, c3, c4, c5, c6, c7, c8, c9, c10, c11, c12, c13, c14, c15, c16, c17, c18, c19, c20, c21, c22, c23, c24, c25, c26, c27, c28, c29, c30, c31] := by
    match d, hd with
    | [c0, c1, c2, c3, c4, c5, c6, c7, c8, c9, c10, c11, c12, c13, c14, c15, c16, c17, c18, c19, c20, c21, c22, c23, c24, c25, c26, c27, c28, c29, c30, c31], _ => exact ⟨_, _, _, _, _, _, _, _, _, _, _, _, _, _, _, _, _, _, _, _, _, _, _, _, _, _, _, _, _, _, _, _, rfl⟩
  exact run_build w 28 _ _ (by kernel_rfl)
theorem exec_build7 {a : Act} {op : Oper} {r0 r1 r2 r3 r4 r5 r7 : Nat} {v0 v1 v2 v3 v4 v5 v7 v : Value} (hb : ∀ W, (Instr.build 28 #[(0, v0), (1, v1), (2, v2), (3, v3), (4, v4), (5, v5), (7, v7)]).run Tryd.prog W = .ok v W)
    (ho : op.op = .build 28 #[(0, .tmp r0), (1, .tmp r1), (2, .tmp r2), (3, .tmp r3), (4, .tmp r4), (5, .tmp r5), (7, .tmp r7)]) (h0 : a.eval (.tmp r0) = v0) (h1 : a.eval (.tmp r1) = v1) (h2 : a.eval (.tmp r2) = v2) (h3 : a.eval (.tmp r3) = v3) (h4 : a.eval (.tmp r4) = v4) (h5 : a.eval (.tmp r5) = v5) (h7 : a.eval (.tmp r7) = v7) (w : World) :
    (execOp a.eval op).run Tryd.prog w = .ok (.value v) w := by
  unfold execOp
  simp only [ho, List.map_toArray, List.map_cons, List.map_nil, h0, h1, h2, h3, h4, h5, h7, Sem.run_bind, hb, Result.andThen_ok, Sem.run_pure]
theorem info_i64 : (Tryd.prog.info? 2).map (fun i => (i.zero, i.size, i.bytes)) = some (some (.int .i64 0), 1, 8) := by kernel_rfl
def ints4 (x2 x3 x5 x6 : List UInt8) : List Value := [.int .i64 (Pl.num0 x2), .int .i64 (Pl.num0 x3), .int .i64 (Pl.num0 x5), .int .i64 (Pl.num0 x6)]
/-- The four places whose numbers are read. -/
theorem four_at {w W : World} {G b o : Nat} {x0 x1 x2 x3 x4 x5 x6 x7 x8 x9 x10 : List UInt8} {n : Nat} (hm : ∀ t ∈ [x0, x1, x2, x3, x4, x5, x6, x7, x8, x9, x10], t.length ≤ n) (hc : ∀ j, j < 11 → w.cell? ⟨b, o + j, none⟩ = (strs [x0, x1, x2, x3, x4, x5, x6, x7, x8, x9, x10])[j]?)
    (hg : W.heap[G]? = some (.cells #[.int .i64 2, .int .i64 3, .int .i64 5, .int .i64 6] 3 (0, 0))) {k : Nat} (hk : k < 4) :
    ∃ (d : Nat) (x : List UInt8), W.cell? ⟨G, k, none⟩ = some (.int .i64 (d : Nat)) ∧ d < 11 ∧ w.cell? ⟨b, o + d, none⟩ = some (.string ⟨x.toArray⟩) ∧ x.length ≤ n ∧ (ints4 x2 x3 x5 x6).take (k + 1) = (ints4 x2 x3 x5 x6).take k ++ [.int .i64 (Pl.num0 x)] := by
  obtain rfl | rfl | rfl | rfl : k = 0 ∨ k = 1 ∨ k = 2 ∨ k = 3 := by omega
  · exact ⟨2, x2, by rw [cell_row W G 0 _ _ hg]; rfl, by omega, by rw [hc 2 (by omega)]; rfl, hm _ (by simp), rfl⟩
  · exact ⟨3, x3, by rw [cell_row W G 1 _ _ hg]; rfl, by omega, by rw [hc 3 (by omega)]; rfl, hm _ (by simp), rfl⟩
  · exact ⟨5, x5, by rw [cell_row W G 2 _ _ hg]; rfl, by omega, by rw [hc 5 (by omega)]; rfl, hm _ (by simp), rfl⟩
  · exact ⟨6, x6, by rw [cell_row W G 3 _ _ hg]; rfl, by omega, by rw [hc 6 (by omega)]; rfl, hm _ (by simp), rfl⟩
/-- Three texts, four numbers. -/
structure T7 (w : World) (b o g : Nat) (x1 x4 x10 : List UInt8) (i0 i1 i2 i3 : Int) : Prop where
  t1 : w.cell? ⟨b, o + 1, none⟩ = some (.string ⟨x1.toArray⟩)
  t4 : w.cell? ⟨b, o + 4, none⟩ = some (.string ⟨x4.toArray⟩)
  t10 : w.cell? ⟨b, o + 10, none⟩ = some (.string ⟨x10.toArray⟩)
  i0 : w.cell? ⟨g, 0, none⟩ = some (.int .i64 i0)
  i1 : w.cell? ⟨g, 1, none⟩ = some (.int .i64 i1)
  i2 : w.cell? ⟨g, 2, none⟩ = some (.int .i64 i2)
  i3 : w.cell? ⟨g, 3, none⟩ = some (.int .i64 i3)
theorem T7.below {w w' : World} {b o g : Nat} {x1 x4 x10 : List UInt8} {i0 i1 i2 i3 : Int} (h : T7 w b o g x1 x4 x10 i0 i1 i2 i3) (hb : b < w.heap.size) (hg : g < w.heap.size) (hw : Below w.heap.size w w') : T7 w' b o g x1 x4 x10 i0 i1 i2 i3 :=
  ⟨(hw.cell (p := ⟨b, o + 1, none⟩) hb).trans h.t1, (hw.cell (p := ⟨b, o + 4, none⟩) hb).trans h.t4, (hw.cell (p := ⟨b, o + 10, none⟩) hb).trans h.t10, (hw.cell (p := ⟨g, 0, none⟩) hg).trans h.i0, (hw.cell (p := ⟨g, 1, none⟩) hg).trans h.i1, (hw.cell (p := ⟨g, 2, none⟩) hg).trans h.i2, (hw.cell (p := ⟨g, 3, none⟩) hg).trans h.i3⟩
theorem T7_set {w : World} {b o g H : Nat} {x1 x4 x10 : List UInt8} {i0 i1 i2 i3 : Int} (h : T7 w b o g x1 x4 x10 i0 i1 i2 i3) (hb : b < H) (hg : g < H) (hH : H < w.heap.size) (p : Nat) (vs : List Value) : T7 (w.setCells H p vs) b o g x1 x4 x10 i0 i1 i2 i3 := by
  have k : ∀ q i, q < H → (w.setCells H p vs).cell? ⟨q, i, none⟩ = w.cell? ⟨q, i, none⟩ := fun q i hq => World.cell?_of_block (World.heap_setCells_other w H p vs (i := q) (by omega) (by omega))
  exact ⟨(k _ _ hb).trans h.t1, (k _ _ hb).trans h.t4, (k _ _ hb).trans h.t10, (k _ _ hg).trans h.i0, (k _ _ hg).trans h.i1, (k _ _ hg).trans h.i2, (k _ _ hg).trans h.i3⟩
theorem fit_snapOf {l : List (List UInt8)} {n : Nat} (h : ∀ t ∈ l, t.length ≤ n) (hn : n ≤ 140737488355328) : SnFit (Pl.snapOf l) := by
  have g : ∀ i, (l.getD i []).length ≤ n := fun i => by
    rcases Nat.lt_or_ge i l.length with h1 | h1
    · rw [List.getD_eq_getElem?_getD, List.getElem?_eq_getElem h1]; exact h _ (List.getElem_mem h1)
    · rw [List.getD_eq_getElem?_getD, List.getElem?_eq_none h1]; simp
  have nm : ∀ i, ∀ t ∈ Pl.namesB (l.getD i []), t.length ≤ 140737488355328 := fun i t ht => by rw [names_short _ t ht]; omega
  have nl : ∀ i, (Pl.namesB (l.getD i [])).length ≤ 140737488355328 := fun i => by rw [Pl.namesB_len]; have := g i; omega
  exact ⟨by have := g 1; show (l.getD 1 []).length ≤ _; omega, nm 7, nm 8, nm 9, nl 7, nl 8, nl 9⟩
set_option maxRecDepth 100000 in
set_option maxHeartbeats 16000000 in
theorem rmof_any (b : List UInt8) (w : World) (hs : b.length ≤ 200000000) : Calls Tryd.prog 67 #[.string ⟨b.toArray⟩] w (RetB (MOfOut b w.heap.size) w) := by
  obtain ⟨l, e, hl⟩ : ∃ l e, Pl.texts b = (l, e) := ⟨_, _, rfl⟩
  have htx := fun W => rtexts_of b l e hl W (by omega)
  have HT := Lib.hid (And.intro htx hl); clear htx hl
  go_enter Tryd.func67, Tryd.ntmps67
  go_upto_region 1 with (fail)
  generalize hV : w.alloc _ = V
  have hR : ∃ C : Array Value, C.size = 41 ∧ V.heap[w.heap.size]? = some (.cells C 28 (0, 0)) := ⟨_, rfl, by rw [← hV]; exact heap_alloc_new w _⟩
  obtain ⟨C, hC, hR⟩ := hR
  have hbV : Below w.heap.size w V := by rw [← hV]; exact (Below.refl _ _).alloc (Nat.le_refl _) _
  clear hV
  go_wp2_with fail
  (with_reducible refine (HT.out.1 _).mono ?_)
  rintro en w1 ⟨A, c, rfl, hr1, hb1⟩
  have hR1 := (hb1.block w.heap.size (blk_lt hR)).trans hR
  have hd1 : Below w.heap.size w w1 := hbV.trans (hb1.mono hbV.size)
  clear hb1 hbV hR
  obtain ⟨ZS, hZS⟩ : ∃ L, snL Pl.zeroS cx0 = L := ⟨_, rfl⟩
  have hzl : ZS.toArray.size = 41 := by rw [List.size_toArray, ← hZS]; rfl
  have hzo : ZS.toArray.all (·.oneCell') = true := all_oneCell_toArray (by rw [← hZS]; exact snL_one _ _)
  have hzi : (Tryd.prog.info? 28).map (·.size) = some ZS.toArray.size := by rw [hzl]; exact info_snap
  have hzt : ∀ W : World, W.heap[w.heap.size]? = some (.cells C 28 (0, 0)) → W.there w.heap.size 0 ZS.toArray.size := fun W h => there_row h (by rw [hC, hzl]; exact Nat.le_refl _)
  have HZ := Lib.hid (And.intro hZS (And.intro hzo (And.intro hzi (And.intro hzt hzl)))); clear hZS hzo hzi hzt hzl
  by_cases he : e ≠ 0
  · have hne : ((e : Int) == 0) = false := by rw [beq_eq_false_iff_ne]; omega
    have hne' : ((e : Int) != 0) = true := by unfold bne; rw [hne]; rfl
    have HB := Lib.hid (show Pl.mof b = (Pl.zeroS, _) by exact Pl.mof_err HT.out.2 he)
    have hth := HZ.out.2.2.2.1 w1 hR1
    have HBE := Lib.hid (hd1)
    go_wp2_with (first
      | (with_reducible refine wpList_build_snap HZ.out.1 rfl rfl ?_)
      | (with_reducible refine wpList_store_mid rfl 28 _ _ rfl w.heap.size 0 ZS.toArray rfl rfl hth HZ.out.2.2.1 HZ.out.2.1 ?_))
    refine bodyPost_ret (results_cell2 (cs := ZS) rfl rfl (World.rangeAt_setCells_same _ _ _ _ (by simpa using hth)) Tryd.underlying28 rfl (by have := HZ.out.2.2.1; simpa using this)) rfl ?_
    exact ⟨_, rfl, ⟨cx0, by rw [HB.out, HZ.out.1]; rfl, by rw [HB.out]; exact ok_zero _, cxNew_zero _⟩, HBE.out.trans (Lib.below_setCells_w (Nat.le_refl _) _ _ _)⟩
  obtain rfl : e = 0 := by omega
  clear he
  have HM := Lib.hid (Pl.mof_ok HT.out.2)
  have hno : Pl.okL l = false → Pl.mof b = (Pl.zeroS, 3) := fun h => by rw [HM.out]; unfold Pl.mofL; rw [h]; rfl
  have HNO := Lib.hid hno; clear hno
  have HR1 := Lib.hid hR1
  have HD1 := Lib.hid hd1
  clear hR1 hd1
  by_cases h11 : l.length = 11
  rotate_left
  · have hd : ((l.length : Int) == 11) = false := by rw [beq_eq_false_iff_ne]; omega
    have hd' : ((l.length : Int) != 11) = true := by unfold bne; rw [hd]; rfl
    have HB := Lib.hid (show Pl.mof b = (Pl.zeroS, _) by exact HNO.out (Pl.okL_noForm (by unfold Pl.formL; rw [decide_eq_false h11]; rfl)))
    have hth := HZ.out.2.2.2.1 w1 HR1.out
    have HBE := Lib.hid (HD1.out)
    go_wp2_with (first
      | (with_reducible refine wpList_build_snap HZ.out.1 rfl rfl ?_)
      | (with_reducible refine wpList_store_mid rfl 28 _ _ rfl w.heap.size 0 ZS.toArray rfl rfl hth HZ.out.2.2.1 HZ.out.2.1 ?_))
    refine bodyPost_ret (results_cell2 (cs := ZS) rfl rfl (World.rangeAt_setCells_same _ _ _ _ (by simpa using hth)) Tryd.underlying28 rfl (by have := HZ.out.2.2.1; simpa using this)) rfl ?_
    exact ⟨_, rfl, ⟨cx0, by rw [HB.out, HZ.out.1]; rfl, by rw [HB.out]; exact ok_zero _, cxNew_zero _⟩, HBE.out.trans (Lib.below_setCells_w (Nat.le_refl _) _ _ _)⟩
  have hmem := fun t ht => text_le (l := l) t ht
  rw [Pl.rowB_texts b l HT.out.2] at hmem
  obtain ⟨x0, x1, x2, x3, x4, x5, x6, x7, x8, x9, x10, rfl⟩ : ∃ x0 x1 x2 x3 x4 x5 x6 x7 x8 x9 x10, l = [x0, x1, x2, x3, x4, x5, x6, x7, x8, x9, x10] := ⟨_, _, _, _, _, _, _, _, _, _, _, Pl.list11 h11⟩
  obtain ⟨b1, o1, rfl, hbw, hc⟩ := hr1.all (by simp)
  have HRC := Lib.hid (And.intro hc hbw)
  have c4 : w1.cell? ⟨b1, o1 + 4, none⟩ = some (.string ⟨x4.toArray⟩) := hc 4 (by simp [strs])
  have c10 : w1.cell? ⟨b1, o1 + 10, none⟩ = some (.string ⟨x10.toArray⟩) := hc 10 (by simp [strs])
  have HME := Lib.hid hmem
  clear hc hr1 h11 hmem
  by_cases e4 : x4.length = 8
  rotate_left
  · have hd : ((x4.length : Int) == 8) = false := by rw [beq_eq_false_iff_ne]; omega
    have hd' : ((x4.length : Int) != 8) = true := by unfold bne; rw [hd]; rfl
    have HB := Lib.hid (show Pl.mof b = (Pl.zeroS, _) by exact HNO.out (Pl.okL_noForm (by unfold Pl.formL; rw [show decide ((List.getD [x0, x1, x2, x3, x4, x5, x6, x7, x8, x9, x10] 4 []).length = 8) = false from decide_eq_false e4]; simp)))
    have hth := HZ.out.2.2.2.1 w1 HR1.out
    have HBE := Lib.hid (HD1.out)
    go_wp2_with (first
      | (with_reducible refine wpList_build_snap HZ.out.1 rfl rfl ?_)
      | (with_reducible refine wpList_store_mid rfl 28 _ _ rfl w.heap.size 0 ZS.toArray rfl rfl hth HZ.out.2.2.1 HZ.out.2.1 ?_))
    refine bodyPost_ret (results_cell2 (cs := ZS) rfl rfl (World.rangeAt_setCells_same _ _ _ _ (by simpa using hth)) Tryd.underlying28 rfl (by have := HZ.out.2.2.1; simpa using this)) rfl ?_
    exact ⟨_, rfl, ⟨cx0, by rw [HB.out, HZ.out.1]; rfl, by rw [HB.out]; exact ok_zero _, cxNew_zero _⟩, HBE.out.trans (Lib.below_setCells_w (Nat.le_refl _) _ _ _)⟩
  have hd4 : ((x4.length : Int) == 8) = true := by rw [beq_iff_eq]; omega
  have hn4 : ((x4.length : Int) != 8) = false := by unfold bne; rw [hd4]; rfl
  by_cases e10 : x10.length = 32
  rotate_left
  · have hd : ((x10.length : Int) == 32) = false := by rw [beq_eq_false_iff_ne]; omega
    have hd' : ((x10.length : Int) != 32) = true := by unfold bne; rw [hd]; rfl
    have HB := Lib.hid (show Pl.mof b = (Pl.zeroS, _) by exact HNO.out (Pl.okL_noForm (by unfold Pl.formL; rw [show decide ((List.getD [x0, x1, x2, x3, x4, x5, x6, x7, x8, x9, x10] 10 []).length = 32) = false from decide_eq_false e10]; simp)))
    have hth := HZ.out.2.2.2.1 w1 HR1.out
    have HBE := Lib.hid (HD1.out)
    go_wp2_with (first
      | (with_reducible refine wpList_build_snap HZ.out.1 rfl rfl ?_)
      | (with_reducible refine wpList_store_mid rfl 28 _ _ rfl w.heap.size 0 ZS.toArray rfl rfl hth HZ.out.2.2.1 HZ.out.2.1 ?_))
    refine bodyPost_ret (results_cell2 (cs := ZS) rfl rfl (World.rangeAt_setCells_same _ _ _ _ (by simpa using hth)) Tryd.underlying28 rfl (by have := HZ.out.2.2.1; simpa using this)) rfl ?_
    exact ⟨_, rfl, ⟨cx0, by rw [HB.out, HZ.out.1]; rfl, by rw [HB.out]; exact ok_zero _, cxNew_zero _⟩, HBE.out.trans (Lib.below_setCells_w (Nat.le_refl _) _ _ _)⟩
  have hd10 : ((x10.length : Int) == 32) = true := by rw [beq_iff_eq]; omega
  have hn10 : ((x10.length : Int) != 32) = false := by unfold bne; rw [hd10]; rfl
  have hform : Pl.formL [x0, x1, x2, x3, x4, x5, x6, x7, x8, x9, x10] = true := by unfold Pl.formL; simp [e4, e10]
  have hokl := Pl.okL_iff (by omega) HT.out.2 hform
  have HXL := Lib.hid (And.intro e4 (And.intro e10 hokl)); clear e4 e10 hform hokl
  go_upto_region 6 with (fail)
  clear hd4 hn4 hd10 hn10 c4 c10
  obtain ⟨B1, hB1⟩ : ∃ B, w1.heap.size = B := ⟨_, rfl⟩
  have HB1 := Lib.hid hB1
  have hown := World.ownsRow_made (base := B1) (e := 2) (size := 1) w1 #[] 0 (by omega) (by decide) (by simp)
  go_wp2_with fail
  generalize hW : w1.alloc _ = W
  rw [hW] at hown
  have hbW : Below B1 w1 W := by rw [← hW, ← hB1]; exact (Below.refl _ _).alloc (Nat.le_refl _) _
  have hsW : W.heap.size = B1 + 1 := by rw [← hW]; simp [hB1]
  generalize hW2 : W.alloc _ = W2
  have hG : W2.heap[W.heap.size]? = some (.cells #[.int .i64 2, .int .i64 3, .int .i64 5, .int .i64 6] 3 (0, 0)) := by rw [← hW2]; exact heap_alloc_new W _
  have hbW2 : Below B1 w1 W2 := by rw [← hW2]; exact hbW.alloc (by omega) _
  have hown2 : W2.ownsRow B1 2 1 (.slice (some ⟨B1, 0, none⟩) 0 0) 0 [] := by
    have := own_below hown (show Below W.heap.size W W2 from by rw [← hW2]; exact (Below.refl _ _).alloc (Nat.le_refl _) _)
    rwa [hB1] at this
  have hsW2 : B1 ≤ W2.heap.size := by rw [← hW2]; simp; omega
  rw [hsW] at hG
  obtain ⟨G, hGG⟩ : ∃ G, B1 + 1 = G := ⟨_, rfl⟩
  have hne0 : B1 ≠ G := by omega
  rw [hGG] at hG ⊢
  have HG0 := Lib.hid (And.intro hbW2 (And.intro hsW2 (And.intro hown2 (And.intro hne0 hG))))
  clear hW hW2 hown hbW hsW hG hbW2 hown2 hsW2 hGG hne0 hB1
  have HI := Lib.hid info_i64
  go_loopw [6, 46] (fun v i wr => ∃ (k g c : Nat), k ≤ 4 ∧ i = .int .i64 (k : Nat) ∧ v = .slice (some ⟨g, 0, none⟩) k c ∧ wr.ownsRow B1 2 1 (.slice (some ⟨g, 0, none⟩) k c) k ((ints4 x2 x3 x5 x6).take k) ∧ Below B1 w1 wr ∧ B1 ≤ wr.heap.size ∧ g ≠ G ∧ wr.heap[G]? = some (.cells #[.int .i64 2, .int .i64 3, .int .i64 5, .int .i64 6] 3 (0, 0))) (fun _ i _ => 4 - (intOf i).toNat)
  case atStart => exact ⟨0, _, 0, by omega, rfl, rfl, HG0.out.2.2.1, HG0.out.1, HG0.out.2.1, HG0.out.2.2.2.1, HG0.out.2.2.2.2⟩
  case round =>
    obtain ⟨k, g, c2, hk, rfl, rfl, hown, hbV, hsz, hne, hG⟩ := hrel
    by_cases hk4 : k < 4
    · obtain ⟨d, x, hc1, hd11, hcx, hxl, hst⟩ := four_at HME.out (fun j hj => HRC.out.1 j (by simpa [strs] using hj)) hG hk4
      have hcx2 : wr.cell? ⟨b1, o1 + d, none⟩ = some (.string ⟨x.toArray⟩) := (hbV.cell (p := ⟨b1, o1 + d, none⟩) (by rw [← HB1.out]; exact HRC.out.2)).trans hcx
      have hri := fun W => rint_any x W (by omega)
      have HST := Lib.hid (And.intro hri hst); clear hri hst hcx hxl
      have hj1 : (k : Int) < 4 := by omega
      have hj2 : (d : Int) < 11 := by omega
      go_wp2_with fail
      (with_reducible refine (HST.out.1 _).mono ?_)
      rintro e v1 ⟨v, rfl, rfl, hb1⟩
      obtain ⟨y, hy⟩ : ∃ y, Pl.num0 x = y := ⟨_, rfl⟩
      have hst := HST.out.2
      rw [hy] at hst
      obtain ⟨z, hz⟩ : ∃ z, (Pl.intQ x).isSome = z := ⟨_, rfl⟩
      have hiv : intV (Pl.intQ x) = .tuple #[.int .i64 y, .bool z] := by rw [← hy, ← hz]; rfl
      rw [hiv]
      have HST2 := Lib.hid hst; clear hst hiv hy hz hcx2 hc1 hj2
      have hown1 := own_below hown hb1
      have hsv : B1 ≤ v1.heap.size := Nat.le_trans hsz hb1.size
      have hGl : G < wr.heap.size := blk_lt hG
      have hG1 : v1.heap[G]? = _ := (hb1.block G hGl).trans hG
      go_wp2_with (at_builtin; refine push_one_g rfl (.tmp 58) (.tmp 60) 80 rfl B1 2 (.int .i64 0) 8 Tryd.underlying80 HI.out rfl _ _ _ _ _ rfl hown1 rfl rfl (by omega) (by omega) hsv ?_; intro g3 c3 v2 hown2 hb2 hkp)
      obtain ⟨k1, k2⟩ := hkp G (Nat.lt_of_lt_of_le hGl hb1.size) (by intro h; injection h with h; exact hne h)
      go_roundw
      case rel =>
        rw [← HST2.out] at hown2
        exact ⟨k + 1, g3, c3, by omega, by go_num, rfl, hown2, (hbV.trans (hb1.mono hsz)).trans hb2, Nat.le_trans hsv hb2.size, k2, k1.trans hG1⟩
      case measure => simp [intOf]; omega
    · obtain rfl : k = 4 := by omega
      go_upto_region 13 with (fail)
      have hgl : g < wr.heap.size := (hown.lt g rfl).2
      have hci : ∀ j, j < 4 → wr.cell? ⟨g, j, none⟩ = (ints4 x2 x3 x5 x6)[j]? := by
        obtain ⟨b', off, he, _, hc⟩ := (Rd.own hown).all (by omega)
        injection he with he
        injection he with he1 he2
        subst he1 he2
        intro j hj
        have := hc j (by simp [ints4]; omega)
        rw [Nat.zero_add] at this
        exact this
      have hct : ∀ j, j < 11 → wr.cell? ⟨b1, o1 + j, none⟩ = (strs [x0, x1, x2, x3, x4, x5, x6, x7, x8, x9, x10])[j]? := fun j hj => (hbV.cell (p := ⟨b1, o1 + j, none⟩) (by rw [← HB1.out]; exact HRC.out.2)).trans (HRC.out.1 j (by simpa [strs] using hj))
      obtain ⟨i0, hi0⟩ : ∃ i, Pl.num0 x2 = i := ⟨_, rfl⟩
      obtain ⟨i1, hi1⟩ : ∃ i, Pl.num0 x3 = i := ⟨_, rfl⟩
      obtain ⟨i2, hi2⟩ : ∃ i, Pl.num0 x5 = i := ⟨_, rfl⟩
      obtain ⟨i3, hi3⟩ : ∃ i, Pl.num0 x6 = i := ⟨_, rfl⟩
      have hT : T7 wr b1 o1 g x1 x4 x10 i0 i1 i2 i3 := ⟨by rw [hct 1 (by omega)]; rfl, by rw [hct 4 (by omega)]; rfl, by rw [hct 10 (by omega)]; rfl, by rw [hci 0 (by omega), ← hi0]; rfl, by rw [hci 1 (by omega), ← hi1]; rfl, by rw [hci 2 (by omega), ← hi2]; rfl, by rw [hci 3 (by omega), ← hi3]; rfl⟩
      have hbl : b1 < wr.heap.size := Nat.lt_of_lt_of_le (by rw [← HB1.out]; exact HRC.out.2) hsz
      have hgt := fun W => rget_any x4 (by have := HXL.out.1; omega) W
      rw [List.take_of_length_le (by have := HXL.out.1; omega)] at hgt
      have hdg := fun W => digest_any x10 W (by have := HXL.out.2.1; omega) (by have := HXL.out.2.1; omega)
      rw [List.take_of_length_le (by have := HXL.out.2.1; omega)] at hdg
      obtain ⟨s, hsn⟩ : ∃ s, Pl.snapOf [x0, x1, x2, x3, x4, x5, x6, x7, x8, x9, x10] = s := ⟨_, rfl⟩
      have hbld := fun W => build_sn7 x1 i0 i1 (Pl.getN x4 : Nat) i2 i3 x10 HXL.out.2.1 W
      have hsl : snL ⟨x1, i0, i1, (Pl.getN x4 : Nat), i2, i3, [], [], [], x10⟩ cx0 = snL s cx0 := by rw [← hsn, ← hi0, ← hi1, ← hi2, ← hi3]; rfl
      rw [hsl] at hbld
      obtain ⟨cn, hcn⟩ : ∃ n, Pl.getN x4 = n := ⟨_, rfl⟩
      rw [hcn] at hgt hbld
      obtain ⟨L0, hL0⟩ : ∃ L, snL s cx0 = L := ⟨_, rfl⟩
      rw [hL0] at hbld
      obtain ⟨DX, hDX⟩ : ∃ D, byC x10 = D := ⟨_, rfl⟩
      rw [hDX] at hbld hdg
      have hs32 : s.sum.length = 32 := by rw [← hsn]; exact HXL.out.2.1
      have hl0 : L0.toArray.size = 41 := by rw [List.size_toArray, ← hL0]; simp [snL, byC_len, hs32]
      have HL0 := Lib.hid (And.intro hL0 (And.intro hl0 (And.intro (show L0.toArray.all (·.oneCell') = true from all_oneCell_toArray (by rw [← hL0]; exact snL_one _ _)) (And.intro hsn hs32))))
      have HCL := Lib.hid (And.intro hgt (And.intro hdg hbld))
      have HWR := Lib.hid (And.intro hbV (And.intro hsz (And.intro hbl hgl)))
      have HT7 := Lib.hid hT
      clear hgt hdg hbld hsl hcn hL0 hDX hsn hl0 hs32 hi0 hi1 hi2 hi3 hci hct hT hown hG hne hbV hsz hbl hgl
      go_cut [11] from 44 to 86 (fun s11 wx => ∃ H, s11 = .pointer (some ⟨H, 0, none⟩) ∧ B1 ≤ H ∧ wx.heap[H]? = some (.cells L0.toArray 28 (0, 0)) ∧ Below B1 w1 wx)
      case first =>
        refine wp_region_held_drew (S := (fun w' => T7 w' b1 o1 g x1 x4 x10 i0 i1 i2 i3)) (by kernel_rfl) (by exact HT7.out.below HWR.out.2.2.1 HWR.out.2.2.2 (Below.refl _ _).drew) (fun hHeld => ?_)
        refine wpAnyH_take (i := 0) (v := ?_) rfl (by kernel_rfl) (by kernel_rfl) (by kernel_rfl) (fun _ _ _ h => h) (Or.inl ⟨by kernel_rfl, ?_⟩) hHeld ?_
        rotate_left
        · (intro w' hSw; obtain ⟨hS0, hS1, hS2, hS3, hS4, hS5, hS6⟩ := hSw; go_simp; try with_reducible rfl)
        simp only [Act.put, List.setIfInBounds_toArray, List.set_cons_zero, List.set_cons_succ, List.getElem_toArray, List.getElem_cons_succ, List.getElem_cons_zero]
        refine wpAnyH_take (i := 1) (v := ?_) rfl (by kernel_rfl) (by kernel_rfl) (by kernel_rfl) (fun _ _ _ h => h) (Or.inl ⟨by kernel_rfl, ?_⟩) hHeld ?_
        rotate_left
        · (intro w' hSw; obtain ⟨hS0, hS1, hS2, hS3, hS4, hS5, hS6⟩ := hSw; go_simp; try with_reducible rfl)
        simp only [Act.put, List.setIfInBounds_toArray, List.set_cons_zero, List.set_cons_succ, List.getElem_toArray, List.getElem_cons_succ, List.getElem_cons_zero]
        refine wpAnyH_take (i := 2) (v := ?_) rfl (by kernel_rfl) (by kernel_rfl) (by kernel_rfl) (fun _ _ _ h => h) (Or.inl ⟨by kernel_rfl, ?_⟩) hHeld ?_
        rotate_left
        · (intro w' hSw; obtain ⟨hS0, hS1, hS2, hS3, hS4, hS5, hS6⟩ := hSw; go_simp; try with_reducible rfl)
        simp only [Act.put, List.setIfInBounds_toArray, List.set_cons_zero, List.set_cons_succ, List.getElem_toArray, List.getElem_cons_succ, List.getElem_cons_zero]
        refine wpAnyH_take (i := 3) (v := ?_) rfl (by kernel_rfl) (by kernel_rfl) (by kernel_rfl) (fun _ _ _ h => h) (Or.inl ⟨by kernel_rfl, ?_⟩) hHeld ?_
        rotate_left
        · (intro w' hSw; obtain ⟨hS0, hS1, hS2, hS3, hS4, hS5, hS6⟩ := hSw; go_simp; try with_reducible rfl)
        simp only [Act.put, List.setIfInBounds_toArray, List.set_cons_zero, List.set_cons_succ, List.getElem_toArray, List.getElem_cons_succ, List.getElem_cons_zero]
        refine wpAnyH_take (i := 4) (v := ?_) rfl (by kernel_rfl) (by kernel_rfl) (by kernel_rfl) (fun _ _ _ h => h) (Or.inl ⟨by kernel_rfl, ?_⟩) hHeld ?_
        rotate_left
        · (intro w' hSw; obtain ⟨hS0, hS1, hS2, hS3, hS4, hS5, hS6⟩ := hSw; go_simp; try with_reducible rfl)
        simp only [Act.put, List.setIfInBounds_toArray, List.set_cons_zero, List.set_cons_succ, List.getElem_toArray, List.getElem_cons_succ, List.getElem_cons_zero]
        refine wpAnyH_take (i := 5) (v := ?_) rfl (by kernel_rfl) (by kernel_rfl) (by kernel_rfl) (fun _ _ _ h => h) (Or.inl ⟨by kernel_rfl, ?_⟩) hHeld ?_
        rotate_left
        · (intro w' hSw; obtain ⟨hS0, hS1, hS2, hS3, hS4, hS5, hS6⟩ := hSw; go_simp; try with_reducible rfl)
        simp only [Act.put, List.setIfInBounds_toArray, List.set_cons_zero, List.set_cons_succ, List.getElem_toArray, List.getElem_cons_succ, List.getElem_cons_zero]
        refine wpAnyH_take (i := 6) (v := ?_) rfl (by kernel_rfl) (by kernel_rfl) (by kernel_rfl) (fun _ _ _ h => h) (Or.inl ⟨by kernel_rfl, ?_⟩) hHeld ?_
        rotate_left
        · (intro w' hSw; obtain ⟨hS0, hS1, hS2, hS3, hS4, hS5, hS6⟩ := hSw; go_simp; try with_reducible rfl)
        simp only [Act.put, List.setIfInBounds_toArray, List.set_cons_zero, List.set_cons_succ, List.getElem_toArray, List.getElem_cons_succ, List.getElem_cons_zero]
        refine wpAnyH_take (i := 7) (v := ?_) rfl (by kernel_rfl) (by kernel_rfl) (by kernel_rfl) (fun _ _ _ h => h) (Or.inl ⟨by kernel_rfl, ?_⟩) hHeld ?_
        rotate_left
        · (intro w' hSw; obtain ⟨hS0, hS1, hS2, hS3, hS4, hS5, hS6⟩ := hSw; go_simp; try with_reducible rfl)
        simp only [Act.put, List.setIfInBounds_toArray, List.set_cons_zero, List.set_cons_succ, List.getElem_toArray, List.getElem_cons_succ, List.getElem_cons_zero]
        refine wpAnyH_take (i := 8) (v := ?_) rfl (by kernel_rfl) (by kernel_rfl) (by kernel_rfl) (fun _ _ _ h => h) (Or.inl ⟨by kernel_rfl, ?_⟩) hHeld ?_
        rotate_left
        · (intro w' hSw; obtain ⟨hS0, hS1, hS2, hS3, hS4, hS5, hS6⟩ := hSw; go_simp; try with_reducible rfl)
        simp only [Act.put, List.setIfInBounds_toArray, List.set_cons_zero, List.set_cons_succ, List.getElem_toArray, List.getElem_cons_succ, List.getElem_cons_zero]
        refine wpAnyH_take (i := 9) (v := ?_) rfl (by kernel_rfl) (by kernel_rfl) (by kernel_rfl) (fun _ _ _ h => h) (Or.inl ⟨by kernel_rfl, ?_⟩) hHeld ?_
        rotate_left
        · (intro w' hSw; obtain ⟨hS0, hS1, hS2, hS3, hS4, hS5, hS6⟩ := hSw; go_simp; try with_reducible rfl)
        simp only [Act.put, List.setIfInBounds_toArray, List.set_cons_zero, List.set_cons_succ, List.getElem_toArray, List.getElem_cons_succ, List.getElem_cons_zero]
        refine wpAnyH_take (i := 10) (v := ?_) rfl (by kernel_rfl) (by kernel_rfl) (by kernel_rfl) (fun _ _ _ h => h) (Or.inl ⟨by kernel_rfl, ?_⟩) hHeld ?_
        rotate_left
        · (intro w' hSw; obtain ⟨hS0, hS1, hS2, hS3, hS4, hS5, hS6⟩ := hSw; go_simp; try with_reducible rfl)
        simp only [Act.put, List.setIfInBounds_toArray, List.set_cons_zero, List.set_cons_succ, List.getElem_toArray, List.getElem_cons_succ, List.getElem_cons_zero]
        refine wpAnyH_take (i := 11) (v := ?_) rfl (by kernel_rfl) (by kernel_rfl) (by kernel_rfl) (fun _ _ _ h => h) (Or.inl ⟨by kernel_rfl, ?_⟩) hHeld ?_
        rotate_left
        · (intro w' hSw; obtain ⟨hS0, hS1, hS2, hS3, hS4, hS5, hS6⟩ := hSw; go_simp; try with_reducible rfl)
        simp only [Act.put, List.setIfInBounds_toArray, List.set_cons_zero, List.set_cons_succ, List.getElem_toArray, List.getElem_cons_succ, List.getElem_cons_zero]
        refine wpAnyH_take (i := 13) (v := ?_) rfl (by kernel_rfl) (by kernel_rfl) (by kernel_rfl) (fun _ _ _ h => h) (Or.inl ⟨by kernel_rfl, ?_⟩) hHeld ?_
        rotate_left
        · (intro w' hSw; obtain ⟨hS0, hS1, hS2, hS3, hS4, hS5, hS6⟩ := hSw; go_simp; try with_reducible rfl)
        simp only [Act.put, List.setIfInBounds_toArray, List.set_cons_zero, List.set_cons_succ, List.getElem_toArray, List.getElem_cons_succ, List.getElem_cons_zero]
        refine wpAnyH_take (i := 14) (v := ?_) rfl (by kernel_rfl) (by kernel_rfl) (by kernel_rfl) (fun _ _ _ h => h) (Or.inl ⟨by kernel_rfl, ?_⟩) hHeld ?_
        rotate_left
        · (intro w' hSw; obtain ⟨hS0, hS1, hS2, hS3, hS4, hS5, hS6⟩ := hSw; go_simp; try with_reducible rfl)
        simp only [Act.put, List.setIfInBounds_toArray, List.set_cons_zero, List.set_cons_succ, List.getElem_toArray, List.getElem_cons_succ, List.getElem_cons_zero]
        refine wpAnyH_take (i := 15) (v := ?_) rfl (by kernel_rfl) (by kernel_rfl) (by kernel_rfl) (fun _ _ _ h => h) (Or.inl ⟨by kernel_rfl, ?_⟩) hHeld ?_
        rotate_left
        · (intro w' hSw; obtain ⟨hS0, hS1, hS2, hS3, hS4, hS5, hS6⟩ := hSw; go_simp; try with_reducible rfl)
        simp only [Act.put, List.setIfInBounds_toArray, List.set_cons_zero, List.set_cons_succ, List.getElem_toArray, List.getElem_cons_succ, List.getElem_cons_zero]
        refine wpAnyH_take (i := 16) (v := ?_) rfl (by kernel_rfl) (by kernel_rfl) (by kernel_rfl) (fun _ _ _ h => h) (Or.inl ⟨by kernel_rfl, ?_⟩) hHeld ?_
        rotate_left
        · (intro w' hSw; obtain ⟨hS0, hS1, hS2, hS3, hS4, hS5, hS6⟩ := hSw; go_simp; try with_reducible rfl)
        simp only [Act.put, List.setIfInBounds_toArray, List.set_cons_zero, List.set_cons_succ, List.getElem_toArray, List.getElem_cons_succ, List.getElem_cons_zero]
        refine wpAnyH_take (i := 17) (v := ?_) rfl (by kernel_rfl) (by kernel_rfl) (by kernel_rfl) (fun _ _ _ h => h) (Or.inl ⟨by kernel_rfl, ?_⟩) hHeld ?_
        rotate_left
        · (intro w' hSw; obtain ⟨hS0, hS1, hS2, hS3, hS4, hS5, hS6⟩ := hSw; go_simp; try with_reducible rfl)
        simp only [Act.put, List.setIfInBounds_toArray, List.set_cons_zero, List.set_cons_succ, List.getElem_toArray, List.getElem_cons_succ, List.getElem_cons_zero]
        refine wpAnyH_take (i := 18) (v := ?_) rfl (by kernel_rfl) (by kernel_rfl) (by kernel_rfl) (fun _ _ _ h => h) (Or.inl ⟨by kernel_rfl, ?_⟩) hHeld ?_
        rotate_left
        · (intro w' hSw; obtain ⟨hS0, hS1, hS2, hS3, hS4, hS5, hS6⟩ := hSw; go_simp; try with_reducible rfl)
        simp only [Act.put, List.setIfInBounds_toArray, List.set_cons_zero, List.set_cons_succ, List.getElem_toArray, List.getElem_cons_succ, List.getElem_cons_zero]
        refine wpAnyH_take (i := 19) (v := ?_) rfl (by kernel_rfl) (by kernel_rfl) (by kernel_rfl) (fun _ _ _ h => h) (Or.inl ⟨by kernel_rfl, ?_⟩) hHeld ?_
        rotate_left
        · (intro w' hSw; obtain ⟨hS0, hS1, hS2, hS3, hS4, hS5, hS6⟩ := hSw; go_simp; try with_reducible rfl)
        simp only [Act.put, List.setIfInBounds_toArray, List.set_cons_zero, List.set_cons_succ, List.getElem_toArray, List.getElem_cons_succ, List.getElem_cons_zero]
        refine wpAnyH_take (i := 20) (v := ?_) rfl (by kernel_rfl) (by kernel_rfl) (by kernel_rfl) (fun _ _ _ h => h) (Or.inl ⟨by kernel_rfl, ?_⟩) hHeld ?_
        rotate_left
        · (intro w' hSw; obtain ⟨hS0, hS1, hS2, hS3, hS4, hS5, hS6⟩ := hSw; go_simp; try with_reducible rfl)
        simp only [Act.put, List.setIfInBounds_toArray, List.set_cons_zero, List.set_cons_succ, List.getElem_toArray, List.getElem_cons_succ, List.getElem_cons_zero]
        refine wpAnyH_take (i := 21) (v := ?_) rfl (by kernel_rfl) (by kernel_rfl) (by kernel_rfl) (fun _ _ _ h => h) (Or.inl ⟨by kernel_rfl, ?_⟩) hHeld ?_
        rotate_left
        · (intro w' hSw; obtain ⟨hS0, hS1, hS2, hS3, hS4, hS5, hS6⟩ := hSw; go_simp; try with_reducible rfl)
        simp only [Act.put, List.setIfInBounds_toArray, List.set_cons_zero, List.set_cons_succ, List.getElem_toArray, List.getElem_cons_succ, List.getElem_cons_zero]
        have hT0 : T7 wr.drew b1 o1 g x1 x4 x10 i0 i1 i2 i3 := HT7.out.below HWR.out.2.2.1 HWR.out.2.2.2 (Below.refl _ _).drew
        have hb0 : Below B1 w1 wr.drew := HWR.out.1.drew
        have hz0 : wr.drew.heap.size = wr.heap.size := rfl
        generalize hW0 : wr.drew = W0
        rw [hW0] at hT0 hb0 hz0
        clear hW0
        have hbl0 : b1 < W0.heap.size := by rw [hz0]; exact HWR.out.2.2.1
        have hgl0 : g < W0.heap.size := by rw [hz0]; exact HWR.out.2.2.2
        have hsz0 : B1 ≤ W0.heap.size := by rw [hz0]; exact HWR.out.2.1
        clear hz0
        refine wpAnyH_ready (rs := [12, 24]) (by kernel_rfl) (by simp) ?_
        refine AllReadyH.cons rfl (fun K hK => ?_) ?_
        · skip
          go_simp
          (with_reducible refine (HCL.out.1 _).mono ?_)
          rintro e w22 ⟨rfl, rfl⟩
          refine hK.out _ _ (by exact hT0) (fun hHeld => ?_)
          clear hK K
          (try simp only [Act.put, List.setIfInBounds_toArray, List.set_cons_zero, List.set_cons_succ, List.getElem_toArray, List.getElem_cons_succ, List.getElem_cons_zero])
          refine wpAnyH_ready (rs := [22, 24]) (by kernel_rfl) (by simp) ?_
          refine AllReadyH.cons rfl (fun K hK => ?_) ?_
          · skip
            go_simp
            (with_reducible refine (HCL.out.2.1 _).mono ?_)
            rintro e W1 ⟨v, rfl, rfl, hb1⟩
            have hT1 := hT0.below hbl0 hgl0 hb1
            have hd1 := hb0.trans (hb1.mono hsz0)
            have hsz1 := Nat.le_trans hsz0 hb1.size
            have hbl1 := Nat.lt_of_lt_of_le hbl0 hb1.size
            have hgl1 := Nat.lt_of_lt_of_le hgl0 hb1.size
            refine hK.out _ _ (by exact hT1) (fun hHeld => ?_)
            clear hK K
            (try simp only [Act.put, List.setIfInBounds_toArray, List.set_cons_zero, List.set_cons_succ, List.getElem_toArray, List.getElem_cons_succ, List.getElem_cons_zero])
            refine wpAnyH_take (i := 23) (v := .agg L0.toArray) rfl (by kernel_rfl) (by kernel_rfl) (by kernel_rfl) (fun _ _ _ h => h) (Or.inl ⟨by kernel_rfl, ?_⟩) hHeld ?_
            · intro w' hSw
              exact exec_build7 HCL.out.2.2 rfl rfl rfl rfl rfl rfl rfl rfl w'
            simp only [Act.put, List.setIfInBounds_toArray, List.set_cons_zero, List.set_cons_succ, List.getElem_toArray, List.getElem_cons_succ, List.getElem_cons_zero]
            refine wpAnyH_ready (rs := [24]) (by kernel_rfl) (by simp) (AllReadyH.cons rfl (fun K hK => ?_) AllReadyH.nil)
            go_simp
            have hT2 : T7 (W1.alloc (.cells ZS.toArray 28)) b1 o1 g x1 x4 x10 i0 i1 i2 i3 := hT1.below hbl1 hgl1 ((Below.refl _ _).alloc (Nat.le_refl _) _)
            have hz2 : (W1.alloc (.cells ZS.toArray 28)).heap[W1.heap.size]? = some (.cells ZS.toArray 28 (0, 0)) := heap_alloc_new W1 _
            have hd2 : Below B1 w1 (W1.alloc (.cells ZS.toArray 28)) := hd1.alloc hsz1 _
            have hsz2 : B1 ≤ (W1.alloc (.cells ZS.toArray 28)).heap.size := by simp; omega
            have hbl2 : b1 < (W1.alloc (.cells ZS.toArray 28)).heap.size := by simp; omega
            have hgl2 : g < (W1.alloc (.cells ZS.toArray 28)).heap.size := by simp; omega
            rw [← HZ.out.1] at hT2 hz2 hd2 hsz2 hbl2 hgl2
            generalize hA : World.alloc _ _ = W2
            rw [show W1.alloc (.cells (snL Pl.zeroS cx0).toArray 28) = W2 from hA] at hT2 hz2 hd2 hsz2 hbl2 hgl2
            rw [HZ.out.1] at hz2
            obtain ⟨H, hH⟩ : ∃ H, W1.heap.size = H := ⟨_, rfl⟩
            have hBH : B1 ≤ H := by rw [← hH]; exact hsz1
            have hbH : b1 < H := by rw [← hH]; exact hbl1
            have hgH : g < H := by rw [← hH]; exact hgl1
            rw [hH] at hz2 ⊢
            clear hA hH
            refine hK.out _ _ (by exact hT2) (fun hHeld => ?_)
            clear hK K
            (try simp only [Act.put, List.setIfInBounds_toArray, List.set_cons_zero, List.set_cons_succ, List.getElem_toArray, List.getElem_cons_succ, List.getElem_cons_zero])
            refine wpAnyH_ready (rs := [25]) (by kernel_rfl) (by simp) (AllReadyH.cons rfl (fun K hK => ?_) AllReadyH.nil)
            refine wp_store_mid 28 _ _ rfl H 0 L0.toArray rfl rfl (there_row hz2 (by rw [HL0.out.2.1, HZ.out.2.2.2.2]; exact Nat.le_refl _)) (by rw [HL0.out.2.1]; exact info_snap) HL0.out.2.2.1 ?_
            have hz9 : (W2.setCells H 0 L0).heap[H]? = some (.cells L0.toArray 28 (0, 0)) := heap_setCells_all hz2 (by have h1 := HL0.out.2.1; have h2 := HZ.out.2.2.2.2; simp at h1 h2; omega)
            have hb9 : Below B1 W2 (W2.setCells H 0 L0) := Lib.below_setCells_w hBH _ _ _
            refine hK.out _ _ (by exact T7_set hT2 hbH hgH (blk_lt hz2) _ _) (fun hHeld => ?_)
            clear hK K
            (try simp only [Act.put, List.setIfInBounds_toArray, List.set_cons_zero, List.set_cons_succ, List.getElem_toArray, List.getElem_cons_succ, List.getElem_cons_zero])
            refine wpAnyH_done (by kernel_rfl) ?_ _
            go_wp2_with fail
            go_meet
            case rel => exact ⟨H, rfl, hBH, hz9, hd2.trans hb9⟩
          · refine AllReadyH.cons rfl (fun K hK => ?_) ?_
            · skip
              go_simp
              have hT2 : T7 (W0.alloc (.cells ZS.toArray 28)) b1 o1 g x1 x4 x10 i0 i1 i2 i3 := hT0.below hbl0 hgl0 ((Below.refl _ _).alloc (Nat.le_refl _) _)
              have hz2 : (W0.alloc (.cells ZS.toArray 28)).heap[W0.heap.size]? = some (.cells ZS.toArray 28 (0, 0)) := heap_alloc_new W0 _
              have hd2 : Below B1 w1 (W0.alloc (.cells ZS.toArray 28)) := hb0.alloc hsz0 _
              have hsz2 : B1 ≤ (W0.alloc (.cells ZS.toArray 28)).heap.size := by simp; omega
              have hbl2 : b1 < (W0.alloc (.cells ZS.toArray 28)).heap.size := by simp; omega
              have hgl2 : g < (W0.alloc (.cells ZS.toArray 28)).heap.size := by simp; omega
              rw [← HZ.out.1] at hT2 hz2 hd2 hsz2 hbl2 hgl2
              generalize hA : World.alloc _ _ = W2
              rw [show W0.alloc (.cells (snL Pl.zeroS cx0).toArray 28) = W2 from hA] at hT2 hz2 hd2 hsz2 hbl2 hgl2
              rw [HZ.out.1] at hz2
              obtain ⟨H, hH⟩ : ∃ H, W0.heap.size = H := ⟨_, rfl⟩
              have hBH : B1 ≤ H := by rw [← hH]; exact hsz0
              have hbH : b1 < H := by rw [← hH]; exact hbl0
              have hgH : g < H := by rw [← hH]; exact hgl0
              rw [hH] at hz2 ⊢
              clear hA hH
              refine hK.out _ _ (by exact hT2) (fun hHeld => ?_)
              clear hK K
              (try simp only [Act.put, List.setIfInBounds_toArray, List.set_cons_zero, List.set_cons_succ, List.getElem_toArray, List.getElem_cons_succ, List.getElem_cons_zero])
              refine wpAnyH_ready (rs := [22]) (by kernel_rfl) (by simp) (AllReadyH.cons rfl (fun K hK => ?_) AllReadyH.nil)
              go_simp
              (with_reducible refine (HCL.out.2.1 _).mono ?_)
              rintro e W3 ⟨v, rfl, rfl, hb3⟩
              have hT3 := hT2.below hbl2 hgl2 hb3
              have hz3 := (hb3.block _ (blk_lt hz2)).trans hz2
              have hd3 := hd2.trans (hb3.mono hsz2)
              refine hK.out _ _ (by exact hT3) (fun hHeld => ?_)
              clear hK K
              (try simp only [Act.put, List.setIfInBounds_toArray, List.set_cons_zero, List.set_cons_succ, List.getElem_toArray, List.getElem_cons_succ, List.getElem_cons_zero])
              refine wpAnyH_take (i := 23) (v := .agg L0.toArray) rfl (by kernel_rfl) (by kernel_rfl) (by kernel_rfl) (fun _ _ _ h => h) (Or.inl ⟨by kernel_rfl, ?_⟩) hHeld ?_
              · intro w' hSw
                exact exec_build7 HCL.out.2.2 rfl rfl rfl rfl rfl rfl rfl rfl w'
              simp only [Act.put, List.setIfInBounds_toArray, List.set_cons_zero, List.set_cons_succ, List.getElem_toArray, List.getElem_cons_succ, List.getElem_cons_zero]
              refine wpAnyH_ready (rs := [25]) (by kernel_rfl) (by simp) (AllReadyH.cons rfl (fun K hK => ?_) AllReadyH.nil)
              refine wp_store_mid 28 _ _ rfl H 0 L0.toArray rfl rfl (there_row hz3 (by rw [HL0.out.2.1, HZ.out.2.2.2.2]; exact Nat.le_refl _)) (by rw [HL0.out.2.1]; exact info_snap) HL0.out.2.2.1 ?_
              have hz9 : (W3.setCells H 0 L0).heap[H]? = some (.cells L0.toArray 28 (0, 0)) := heap_setCells_all hz3 (by have h1 := HL0.out.2.1; have h2 := HZ.out.2.2.2.2; simp at h1 h2; omega)
              have hb9 : Below B1 W3 (W3.setCells H 0 L0) := Lib.below_setCells_w hBH _ _ _
              refine hK.out _ _ (by exact T7_set hT3 hbH hgH (blk_lt hz3) _ _) (fun hHeld => ?_)
              clear hK K
              (try simp only [Act.put, List.setIfInBounds_toArray, List.set_cons_zero, List.set_cons_succ, List.getElem_toArray, List.getElem_cons_succ, List.getElem_cons_zero])
              refine wpAnyH_done (by kernel_rfl) ?_ _
              go_wp2_with fail
              go_meet
              case rel => exact ⟨H, rfl, hBH, hz9, hd3.trans hb9⟩
            · exact AllReadyH.nil
        · refine AllReadyH.cons rfl (fun K hK => ?_) ?_
          · skip
            go_simp
            have hT2 : T7 (W0.alloc (.cells ZS.toArray 28)) b1 o1 g x1 x4 x10 i0 i1 i2 i3 := hT0.below hbl0 hgl0 ((Below.refl _ _).alloc (Nat.le_refl _) _)
            have hz2 : (W0.alloc (.cells ZS.toArray 28)).heap[W0.heap.size]? = some (.cells ZS.toArray 28 (0, 0)) := heap_alloc_new W0 _
            have hd2 : Below B1 w1 (W0.alloc (.cells ZS.toArray 28)) := hb0.alloc hsz0 _
            have hsz2 : B1 ≤ (W0.alloc (.cells ZS.toArray 28)).heap.size := by simp; omega
            have hbl2 : b1 < (W0.alloc (.cells ZS.toArray 28)).heap.size := by simp; omega
            have hgl2 : g < (W0.alloc (.cells ZS.toArray 28)).heap.size := by simp; omega
            rw [← HZ.out.1] at hT2 hz2 hd2 hsz2 hbl2 hgl2
            generalize hA : World.alloc _ _ = W2
            rw [show W0.alloc (.cells (snL Pl.zeroS cx0).toArray 28) = W2 from hA] at hT2 hz2 hd2 hsz2 hbl2 hgl2
            rw [HZ.out.1] at hz2
            obtain ⟨H, hH⟩ : ∃ H, W0.heap.size = H := ⟨_, rfl⟩
            have hBH : B1 ≤ H := by rw [← hH]; exact hsz0
            have hbH : b1 < H := by rw [← hH]; exact hbl0
            have hgH : g < H := by rw [← hH]; exact hgl0
            rw [hH] at hz2 ⊢
            clear hA hH
            refine hK.out _ _ (by exact hT2) (fun hHeld => ?_)
            clear hK K
            (try simp only [Act.put, List.setIfInBounds_toArray, List.set_cons_zero, List.set_cons_succ, List.getElem_toArray, List.getElem_cons_succ, List.getElem_cons_zero])
            refine wpAnyH_ready (rs := [12]) (by kernel_rfl) (by simp) (AllReadyH.cons rfl (fun K hK => ?_) AllReadyH.nil)
            go_simp
            (with_reducible refine (HCL.out.1 _).mono ?_)
            rintro e w22 ⟨rfl, rfl⟩
            refine hK.out _ _ (by exact hT2) (fun hHeld => ?_)
            clear hK K
            (try simp only [Act.put, List.setIfInBounds_toArray, List.set_cons_zero, List.set_cons_succ, List.getElem_toArray, List.getElem_cons_succ, List.getElem_cons_zero])
            refine wpAnyH_ready (rs := [22]) (by kernel_rfl) (by simp) (AllReadyH.cons rfl (fun K hK => ?_) AllReadyH.nil)
            go_simp
            (with_reducible refine (HCL.out.2.1 _).mono ?_)
            rintro e W3 ⟨v, rfl, rfl, hb3⟩
            have hT3 := hT2.below hbl2 hgl2 hb3
            have hz3 := (hb3.block _ (blk_lt hz2)).trans hz2
            have hd3 := hd2.trans (hb3.mono hsz2)
            refine hK.out _ _ (by exact hT3) (fun hHeld => ?_)
            clear hK K
            (try simp only [Act.put, List.setIfInBounds_toArray, List.set_cons_zero, List.set_cons_succ, List.getElem_toArray, List.getElem_cons_succ, List.getElem_cons_zero])
            refine wpAnyH_take (i := 23) (v := .agg L0.toArray) rfl (by kernel_rfl) (by kernel_rfl) (by kernel_rfl) (fun _ _ _ h => h) (Or.inl ⟨by kernel_rfl, ?_⟩) hHeld ?_
            · intro w' hSw
              exact exec_build7 HCL.out.2.2 rfl rfl rfl rfl rfl rfl rfl rfl w'
            simp only [Act.put, List.setIfInBounds_toArray, List.set_cons_zero, List.set_cons_succ, List.getElem_toArray, List.getElem_cons_succ, List.getElem_cons_zero]
            refine wpAnyH_ready (rs := [25]) (by kernel_rfl) (by simp) (AllReadyH.cons rfl (fun K hK => ?_) AllReadyH.nil)
            refine wp_store_mid 28 _ _ rfl H 0 L0.toArray rfl rfl (there_row hz3 (by rw [HL0.out.2.1, HZ.out.2.2.2.2]; exact Nat.le_refl _)) (by rw [HL0.out.2.1]; exact info_snap) HL0.out.2.2.1 ?_
            have hz9 : (W3.setCells H 0 L0).heap[H]? = some (.cells L0.toArray 28 (0, 0)) := heap_setCells_all hz3 (by have h1 := HL0.out.2.1; have h2 := HZ.out.2.2.2.2; simp at h1 h2; omega)
            have hb9 : Below B1 W3 (W3.setCells H 0 L0) := Lib.below_setCells_w hBH _ _ _
            refine hK.out _ _ (by exact T7_set hT3 hbH hgH (blk_lt hz3) _ _) (fun hHeld => ?_)
            clear hK K
            (try simp only [Act.put, List.setIfInBounds_toArray, List.set_cons_zero, List.set_cons_succ, List.getElem_toArray, List.getElem_cons_succ, List.getElem_cons_zero])
            refine wpAnyH_done (by kernel_rfl) ?_ _
            go_wp2_with fail
            go_meet
            case rel => exact ⟨H, rfl, hBH, hz9, hd3.trans hb9⟩
          · exact AllReadyH.nil
      case rest =>
        obtain ⟨H, rfl, hBH, hz, hbx⟩ := hcut
        have hHc : H < wc.heap.size := blk_lt hz
        have hH0 : w.heap.size < B1 := by rw [← HB1.out]; exact blk_lt HR1.out
        obtain ⟨l, hl⟩ : ∃ l, [x0, x1, x2, x3, x4, x5, x6, x7, x8, x9, x10] = l := ⟨_, rfl⟩
        have hmx := HME.out
        have hokl := HXL.out.2.2
        have hsn := HL0.out.2.2.2.1
        have htx : ∀ k, k < 3 → wc.cell? ⟨b1, o1 + (7 + k), none⟩ = some (.string ⟨(l.getD (7 + k) []).toArray⟩) := fun k hk => by
          rw [hbx.cell (p := ⟨b1, o1 + (7 + k), none⟩) (by rw [← HB1.out]; exact HRC.out.2)]
          rw [HRC.out.1 (7 + k) (by simp [strs]; omega), ← hl]
          rcases (show k = 0 ∨ k = 1 ∨ k = 2 by omega) with rfl | rfl | rfl <;> rfl
        have hlg : l.length = 11 := by rw [← hl]; rfl
        rw [hl] at hmx hokl hsn
        have hxl : ∀ k, k < 3 → (l.getD (7 + k) []).length ≤ b.length := fun k hk => hmx _ (by rw [List.getD_eq_getElem?_getD, List.getElem?_eq_getElem (by omega)]; exact List.getElem_mem (by omega))
        have hbc : b1 < wc.heap.size ∧ b1 ≠ H := by
          have h1 := HRC.out.2
          have h2 := HB1.out
          exact ⟨by omega, by omega⟩
        have HTX := Lib.hid (And.intro (show ∀ W, wc.grownBy W (some H) → ∀ k, k < 3 → W.cell? ⟨b1, o1 + (7 + k), none⟩ = some (.string ⟨(l.getD (7 + k) []).toArray⟩) from fun W hg k hk => (World.cell?_of_block (hg.block b1 hbc.1 (by intro e; injection e with e; exact hbc.2 e))).trans (htx k hk)) hxl)
        have hall : RAll H l s 0 cx0 wc wc := ⟨by rw [HL0.out.1]; exact hz, grown_refl _ _, fun i hi => by
          have e1 : rowC l 0 i = [] := by unfold rowC; rw [if_neg (by omega)]
          have e2 : cxV cx0 i = .slice none 0 0 := by rcases (show i = 0 ∨ i = 1 ∨ i = 2 by omega) with rfl | rfl | rfl <;> rfl
          rw [e1, e2]; exact World.ownsRow_nil _ _ _ _, fun i _ hi => by rcases (show i = 0 ∨ i = 1 ∨ i = 2 by omega) with rfl | rfl | rfl <;> rfl⟩
        have hfit : SnFit s := by rw [← hsn]; exact fit_snapOf hmx (by omega)
        have hclk : 0 ≤ s.clock ∧ s.clock < 18446744073709551616 := by
          have h8 : (l.getD 4 []).length = 8 := by rw [← hl]; exact HXL.out.1
          have hc := Pl.getN_lt8 (l.getD 4 []) (by omega)
          have e : s.clock = ((Pl.getN (l.getD 4 []) : Nat) : Int) := by rw [← hsn]; rfl
          rw [e]; constructor <;> omega
        have hc012 : s.c0 = Pl.namesB (l.getD 7 []) ∧ s.c1 = Pl.namesB (l.getD 8 []) ∧ s.c2 = Pl.namesB (l.getD 9 []) := by rw [← hsn]; exact ⟨rfl, rfl, rfl⟩
        have HF := Lib.hid (And.intro hall (And.intro hfit (And.intro hclk (And.intro hc012 (And.intro hBH (And.intro hHc (And.intro hH0 hbx)))))))
        have HOKL := Lib.hid (And.intro hokl (And.intro (show Pl.mof b = Pl.mofL l by rw [HM.out, hl]) (And.intro hsn (show Pl.okL l = false → Pl.mof b = (Pl.zeroS, 3) from fun h => HNO.out (by rw [hl]; exact h)))))
        clear hall hfit hclk hc012 hBH hHc hH0 hbx hokl hsn hmx htx hlg hxl hbc hz
        go_wp2_with fail
        go_loopw [12] (fun i wr => ∃ (k : Nat) (X : Cx), k ≤ 3 ∧ i = .int .i64 (k : Nat) ∧ Hid (RAll H l s k X wc wr)) (fun i _ => 3 - (intOf i).toNat)
        case atStart => exact ⟨0, cx0, by omega, rfl, HF.out.1⟩
        case round =>
          obtain ⟨k, X, hk, rfl, HA⟩ := hrel
          obtain ⟨wo, rfl⟩ : ∃ wo : World, wo = wr := ⟨_, rfl⟩
          by_cases hk3 : k < 3
          · have hj1 : (k : Int) < 3 := by omega
            have hj2 : (0 : Int) ≤ (k : Int) := by omega
            have hHo : H < wo.heap.size := Nat.lt_of_lt_of_le HF.out.2.2.2.2.2.1 HA.out.g.size
            obtain ⟨x, hx⟩ : ∃ x, l.getD (7 + k) [] = x := ⟨_, rfl⟩
            have htx := fun W hg => HTX.out.1 W hg k hk3
            have hxl := HTX.out.2 k hk3
            rw [hx] at htx hxl
            obtain ⟨n, hn⟩ : ∃ n, x.length = n := ⟨_, rfl⟩
            have hsz : (⟨x.toArray⟩ : ByteArray).size = n := by simp [ByteArray.size, hn]
            rw [hn] at hxl
            have hnb : n ≤ 200000000 := by omega
            have HX := Lib.hid (And.intro hx (And.intro htx hn)); clear hx htx hxl
            have s1 : (7 + (k : Int)).toNat = 7 + k := by omega
            have HST := Lib.hid info_str
            have hin := RIn.start HA.out hk3 x
            have HIN := Lib.hid hin; clear hin
            go_wp2_with fail
            go_loopw [13] (fun j wr => ∃ (q : Nat) (Z : Cx), 32 * q ≤ n ∧ j = .int .i64 ((32 * q : Nat) : Int) ∧ Hid (RIn H x s k q X Z wo wr)) (fun j _ => n - (intOf j).toNat)
            case atStart => exact ⟨0, X, by omega, rfl, HIN.out⟩
            case round =>
              obtain ⟨q, Z, hq, rfl, HR⟩ := hrel
              have hgr : wc.grownBy wr (some H) := grown_trans HA.out.g HR.out.g
              have hct := HX.out.2.1 wr hgr
              obtain ⟨A, c, hcv⟩ := own_form' HR.out.own
              obtain ⟨a, ha⟩ : ∃ a, 32 * q = a := ⟨_, rfl⟩
              obtain ⟨e, he⟩ : ∃ e, a + 32 = e := ⟨_, rfl⟩
              rw [ha] at hq ⊢
              have hae32 : (a : Int) + 32 = (e : Int) := by omega
              have hel : (e : Int) ≤ 300000000 := by omega
              have HE := Lib.hid (And.intro ha he)
              by_cases hcond : e ≤ n
              · have hd : decide ((e : Int) ≤ (n : Int)) = true := decide_eq_true (by omega)
                have hc4 : wr.cell? ⟨H, 6 + k, none⟩ = some (.slice A q c) := by rw [cell_row wr H (6 + k) _ _ HR.out.z, List.getElem?_toArray, snL_get _ _ hk3, hcv]
                have hown := HR.out.own
                rw [hcv] at hown
                obtain ⟨y, hy⟩ : ∃ y, (x.drop a).take (e - a) = y := ⟨_, rfl⟩
                have hyl : y.length = 32 := by rw [← hy, List.length_take, List.length_drop, HX.out.2.2]; omega
                have hdg := fun W => digest_any y W (by omega) (by omega)
                rw [List.take_of_length_le (by omega)] at hdg
                have hhx := fun W => rhex_any y W hyl
                obtain ⟨t, ht⟩ : ∃ t, Pl.hexB y = t := ⟨_, rfl⟩
                obtain ⟨D, hD⟩ : ∃ D, byC y = D := ⟨_, rfl⟩
                rw [ht] at hhx
                rw [hD] at hdg hhx
                have hst : strs (Pl.namesK (q + 1) x) = strs (Pl.namesK q x) ++ [.string ⟨t.toArray⟩] := by
                  rw [Pl.namesK_snoc, HE.out.1, ← ht, ← hy, show e - a = 32 by have := HE.out.2; omega]; simp [strs]
                have HD := Lib.hid (And.intro hdg (And.intro hhx hst)); clear hdg hhx hst ht hD hyl
                have HOW := Lib.hid hown; clear hown
                have hae : (a : Int) ≤ (e : Int) := by omega
                have hae' : a ≤ e := by omega
                have hen : (e : Int) ≤ (n : Int) := by omega
                have he0 : (0 : Int) ≤ (e : Int) := by omega
                have hwr : IntKind.i64.wrap ((a : Int) + 32) = (e : Int) := by rw [IntKind.wrap_i64]; omega
                have hso : wo.heap.size ≤ wr.heap.size := HR.out.g.size
                have hq1 : (q + 1) * 16 ≤ 140737488355328 := by have := HE.out.1; omega
                have e1 : IntKind.i64.wrap (7 + (k : Int)) = 7 + (k : Int) := IntWalk.i64_in _ (by omega)
                have e2 : IntKind.i64.wrap (e : Int) = (e : Int) := IntWalk.i64_in _ (by omega)
                have p1 : (0 : Int) ≤ 7 + (k : Int) := by omega
                have p2 : 7 + (k : Int) < 11 := by omega
                clear he ha
                go_wp2_with fail
                have hS0 : wr.drew.cell? ⟨b1, o1 + (7 + k), none⟩ = some (.string ⟨x.toArray⟩) := hct
                have hC0 : wr.drew.cell? ⟨H, 6 + k, none⟩ = some (.slice A q c) := hc4
                have hB0 : Below wo.heap.size wr wr.drew := (Below.refl _ _).drew
                have hO0 : wr.drew.ownsRow wo.heap.size 9 1 (.slice A q c) q (strs (Pl.namesK q x)) := HOW.out.drew
                have hz0 : wr.drew.heap.size = wr.heap.size := rfl
                refine wp_region_held_drew (S := (fun w' => w'.cell? ⟨b1, o1 + (7 + k), none⟩ = some (.string ⟨x.toArray⟩))) (by kernel_rfl) (by exact hS0) (fun hHeld => ?_)
                refine wpAnyH_take (i := 0) (v := ?_) rfl (by kernel_rfl) (by kernel_rfl) (by kernel_rfl) (fun _ _ _ h => h) (Or.inl ⟨by kernel_rfl, ?_⟩) hHeld ?_
                rotate_left
                · (intro w' hSw; (try dsimp only at hSw); go_simp; try with_reducible rfl)
                simp only [Act.put, List.setIfInBounds_toArray, List.set_cons_zero, List.set_cons_succ, List.getElem_toArray, List.getElem_cons_succ, List.getElem_cons_zero]
                refine wpAnyH_take (i := 1) (v := ?_) rfl (by kernel_rfl) (by kernel_rfl) (by kernel_rfl) (fun _ _ _ h => h) (Or.inl ⟨by kernel_rfl, ?_⟩) hHeld ?_
                rotate_left
                · (intro w' hSw; (try dsimp only at hSw); go_simp; try with_reducible rfl)
                simp only [Act.put, List.setIfInBounds_toArray, List.set_cons_zero, List.set_cons_succ, List.getElem_toArray, List.getElem_cons_succ, List.getElem_cons_zero]
                refine wpAnyH_take (i := 2) (v := ?_) rfl (by kernel_rfl) (by kernel_rfl) (by kernel_rfl) (fun _ _ _ h => h) (Or.inl ⟨by kernel_rfl, ?_⟩) hHeld ?_
                rotate_left
                · (intro w' hSw; (try dsimp only at hSw); go_simp; try with_reducible rfl)
                simp only [Act.put, List.setIfInBounds_toArray, List.set_cons_zero, List.set_cons_succ, List.getElem_toArray, List.getElem_cons_succ, List.getElem_cons_zero]
                refine wpAnyH_take (i := 3) (v := ?_) rfl (by kernel_rfl) (by kernel_rfl) (by kernel_rfl) (fun _ _ _ h => h) (Or.inl ⟨by kernel_rfl, ?_⟩) hHeld ?_
                rotate_left
                · (intro w' hSw; (try dsimp only at hSw); go_simp; try with_reducible rfl)
                simp only [Act.put, List.setIfInBounds_toArray, List.set_cons_zero, List.set_cons_succ, List.getElem_toArray, List.getElem_cons_succ, List.getElem_cons_zero]
                refine wpAnyH_take (i := 5) (v := ?_) rfl (by kernel_rfl) (by kernel_rfl) (by kernel_rfl) (fun _ _ _ h => h) (Or.inl ⟨by kernel_rfl, ?_⟩) hHeld ?_
                rotate_left
                · (intro w' hSw; (try dsimp only at hSw); go_simp; try with_reducible rfl)
                simp only [Act.put, List.setIfInBounds_toArray, List.set_cons_zero, List.set_cons_succ, List.getElem_toArray, List.getElem_cons_succ, List.getElem_cons_zero]
                refine wpAnyH_take (i := 6) (v := ?_) rfl (by kernel_rfl) (by kernel_rfl) (by kernel_rfl) (fun _ _ _ h => h) (Or.inl ⟨by kernel_rfl, ?_⟩) hHeld ?_
                rotate_left
                · (intro w' hSw; (try dsimp only at hSw); go_simp; try with_reducible rfl)
                simp only [Act.put, List.setIfInBounds_toArray, List.set_cons_zero, List.set_cons_succ, List.getElem_toArray, List.getElem_cons_succ, List.getElem_cons_zero]
                refine wpAnyH_take (i := 7) (v := ?_) rfl (by kernel_rfl) (by kernel_rfl) (by kernel_rfl) (fun _ _ _ h => h) (Or.inl ⟨by kernel_rfl, ?_⟩) hHeld ?_
                rotate_left
                · (intro w' hSw; (try dsimp only at hSw); go_simp; try with_reducible rfl)
                simp only [Act.put, List.setIfInBounds_toArray, List.set_cons_zero, List.set_cons_succ, List.getElem_toArray, List.getElem_cons_succ, List.getElem_cons_zero]
                refine wpAnyH_take (i := 8) (v := ?_) rfl (by kernel_rfl) (by kernel_rfl) (by kernel_rfl) (fun _ _ _ h => h) (Or.inl ⟨by kernel_rfl, ?_⟩) hHeld ?_
                rotate_left
                · (intro w' hSw; (try dsimp only at hSw); go_simp; try with_reducible rfl)
                simp only [Act.put, List.setIfInBounds_toArray, List.set_cons_zero, List.set_cons_succ, List.getElem_toArray, List.getElem_cons_succ, List.getElem_cons_zero]
                refine wpAnyH_take (i := 9) (v := ?_) rfl (by kernel_rfl) (by kernel_rfl) (by kernel_rfl) (fun _ _ _ h => h) (Or.inl ⟨by kernel_rfl, ?_⟩) hHeld ?_
                rotate_left
                · (intro w' hSw; (try dsimp only at hSw); go_simp; try with_reducible rfl)
                simp only [Act.put, List.setIfInBounds_toArray, List.set_cons_zero, List.set_cons_succ, List.getElem_toArray, List.getElem_cons_succ, List.getElem_cons_zero]
                refine wpAnyH_take (i := 10) (v := ?_) rfl (by kernel_rfl) (by kernel_rfl) (by kernel_rfl) (fun _ _ _ h => h) (Or.inl ⟨by kernel_rfl, ?_⟩) hHeld ?_
                rotate_left
                · (intro w' hSw; (try dsimp only at hSw); go_simp; try with_reducible rfl)
                simp only [Act.put, List.setIfInBounds_toArray, List.set_cons_zero, List.set_cons_succ, List.getElem_toArray, List.getElem_cons_succ, List.getElem_cons_zero]
                refine wpAnyH_take (i := 11) (v := ?_) rfl (by kernel_rfl) (by kernel_rfl) (by kernel_rfl) (fun _ _ _ h => h) (Or.inl ⟨by kernel_rfl, ?_⟩) hHeld ?_
                rotate_left
                · (intro w' hSw; (try dsimp only at hSw); go_simp; try with_reducible rfl)
                simp only [Act.put, List.setIfInBounds_toArray, List.set_cons_zero, List.set_cons_succ, List.getElem_toArray, List.getElem_cons_succ, List.getElem_cons_zero]
                refine wpAnyH_take (i := 12) (v := ?_) rfl (by kernel_rfl) (by kernel_rfl) (by kernel_rfl) (fun _ _ _ h => h) (Or.inl ⟨by kernel_rfl, ?_⟩) hHeld ?_
                rotate_left
                · (intro w' hSw; (try dsimp only at hSw); go_simp; try with_reducible rfl)
                simp only [Act.put, List.setIfInBounds_toArray, List.set_cons_zero, List.set_cons_succ, List.getElem_toArray, List.getElem_cons_succ, List.getElem_cons_zero]
                refine wpAnyH_take (i := 13) (v := ?_) rfl (by kernel_rfl) (by kernel_rfl) (by kernel_rfl) (fun _ _ _ h => h) (Or.inl ⟨by kernel_rfl, ?_⟩) hHeld ?_
                rotate_left
                · (intro w' hSw; (try dsimp only at hSw); go_simp; try with_reducible rfl)
                simp only [Act.put, List.setIfInBounds_toArray, List.set_cons_zero, List.set_cons_succ, List.getElem_toArray, List.getElem_cons_succ, List.getElem_cons_zero]
                refine wpAnyH_take (i := 18) (v := ?_) rfl (by kernel_rfl) (by kernel_rfl) (by kernel_rfl) (fun _ _ _ h => h) (Or.inl ⟨by kernel_rfl, ?_⟩) hHeld ?_
                rotate_left
                · (intro w' hSw; (try dsimp only at hSw); go_simp; try with_reducible rfl)
                simp only [Act.put, List.setIfInBounds_toArray, List.set_cons_zero, List.set_cons_succ, List.getElem_toArray, List.getElem_cons_succ, List.getElem_cons_zero]
                have hso0 : wo.heap.size ≤ wr.drew.heap.size := by rw [hz0]; exact hso
                generalize hW0 : wr.drew = W0
                rw [hW0] at hS0 hC0 hB0 hO0 hso0
                clear hW0 hct hc4
                refine wpAnyH_ready (rs := [4, 14]) (by kernel_rfl) (by simp) (AllReadyH.cons rfl (fun K hK => ?_) (AllReadyH.cons rfl (fun K hK => ?_) AllReadyH.nil))
                · skip
                  go_simp
                  refine hK.out _ _ (by exact hS0) (fun hHeld => ?_)
                  clear hK K
                  (try simp only [Act.put, List.setIfInBounds_toArray, List.set_cons_zero, List.set_cons_succ, List.getElem_toArray, List.getElem_cons_succ, List.getElem_cons_zero])
                  refine wpAnyH_ready (rs := [14]) (by kernel_rfl) (by simp) (AllReadyH.cons rfl (fun K hK => ?_) AllReadyH.nil)
                  go_simp
                  (with_reducible refine (HD.out.1 _).mono ?_)
                  rintro e W1 ⟨v, rfl, rfl, hbb⟩
                  have hS1 := (hbb.cell (p := ⟨b1, o1 + (7 + k), none⟩) (World.block_lt_of_cell? _ _ hS0)).trans hS0
                  have hC1 := (hbb.cell (p := ⟨H, 6 + k, none⟩) (World.block_lt_of_cell? _ _ hC0)).trans hC0
                  have hB1 := hB0.trans (hbb.mono hso0)
                  have hO1 := own_below hO0 hbb
                  have hso1 := Nat.le_trans hso0 hbb.size
                  refine hK.out _ _ (by exact hS1) (fun hHeld => ?_)
                  clear hK K
                  (try simp only [Act.put, List.setIfInBounds_toArray, List.set_cons_zero, List.set_cons_succ, List.getElem_toArray, List.getElem_cons_succ, List.getElem_cons_zero])
                  refine wpAnyH_ready (rs := [15]) (by kernel_rfl) (by simp) (AllReadyH.cons rfl (fun K hK => ?_) AllReadyH.nil)
                  go_simp
                  (with_reducible refine (HD.out.2.1 _).mono ?_)
                  rintro e W2 ⟨v, rfl, rfl, hbb⟩
                  have hS2 := (hbb.cell (p := ⟨b1, o1 + (7 + k), none⟩) (World.block_lt_of_cell? _ _ hS1)).trans hS1
                  have hC2 := (hbb.cell (p := ⟨H, 6 + k, none⟩) (World.block_lt_of_cell? _ _ hC1)).trans hC1
                  have hB2 := hB1.trans (hbb.mono hso1)
                  have hO2 := own_below hO1 hbb
                  have hso2 := Nat.le_trans hso1 hbb.size
                  refine hK.out _ _ (by exact hS2) (fun hHeld => ?_)
                  clear hK K
                  (try simp only [Act.put, List.setIfInBounds_toArray, List.set_cons_zero, List.set_cons_succ, List.getElem_toArray, List.getElem_cons_succ, List.getElem_cons_zero])
                  refine wpAnyH_ready (rs := [16]) (by kernel_rfl) (by simp) (AllReadyH.cons rfl (fun K hK => ?_) AllReadyH.nil)
                  have hS3 : (W2.alloc (.cells #[.string ⟨t.toArray⟩] 9)).cell? ⟨b1, o1 + (7 + k), none⟩ = some (.string ⟨x.toArray⟩) := (World.cell?_alloc_lt _ _ _ (World.block_lt_of_cell? _ _ hS2)).trans hS2
                  have hC3 : (W2.alloc (.cells #[.string ⟨t.toArray⟩] 9)).cell? ⟨H, 6 + k, none⟩ = some (.slice A q c) := (World.cell?_alloc_lt _ _ _ (World.block_lt_of_cell? _ _ hC2)).trans hC2
                  have hB3 : Below wo.heap.size wr (W2.alloc (.cells #[.string ⟨t.toArray⟩] 9)) := hB2.alloc hso2 _
                  have hO3 : (W2.alloc (.cells #[.string ⟨t.toArray⟩] 9)).ownsRow wo.heap.size 9 1 (.slice A q c) q (strs (Pl.namesK q x)) := hO2.alloc _
                  have hy : (W2.alloc (.cells #[.string ⟨t.toArray⟩] 9)).cell? ⟨W2.heap.size, 0, none⟩ = some (.string ⟨t.toArray⟩) := World.cell?_alloc_new _ _ _ _
                  have hso3 : wo.heap.size ≤ (W2.alloc (.cells #[.string ⟨t.toArray⟩] 9)).heap.size := by simp; omega
                  go_simp
                  generalize hA : World.alloc _ _ = W3
                  rw [show W2.alloc (.cells #[.string ⟨t.toArray⟩] 9) = W3 from hA] at hS3 hC3 hB3 hO3 hy hso3
                  clear hA
                  refine hK.out _ _ (by exact hS3) (fun hHeld => ?_)
                  clear hK K
                  (try simp only [Act.put, List.setIfInBounds_toArray, List.set_cons_zero, List.set_cons_succ, List.getElem_toArray, List.getElem_cons_succ, List.getElem_cons_zero])
                  refine wpAnyH_ready (rs := [17]) (by kernel_rfl) (by simp) (AllReadyH.cons rfl (fun K hK => ?_) AllReadyH.nil)
                  refine step_pushes rfl (.tmp 106) (.tmp 118) 23 rfl wo.heap.size 9 (.string ⟨#[]⟩) 16 Tryd.underlying23 HST.out rfl _ _ q (strs (Pl.namesK q x)) [.string ⟨t.toArray⟩] W2.heap.size 0 1 1 (by rfl) hO3 (by rfl) rfl (by omega) (fun j' u hu => by
                    rcases j' with _ | j'
                    · rw [← hu]; exact hy
                    · simp at hu) (by intro u hu; simp at hu; subst hu; rfl) hq1 (by omega) hso3 ?_
                  intro A2 c2 w2 hown2 hb2
                  have hb9 : Below wo.heap.size wr w2 := hB3.trans hb2
                  have hS9 := HX.out.2.1 w2 (grown_trans HA.out.g (grown_below HR.out.g hb9 (Nat.le_refl _)))
                  have hz9 := (hb9.block H hHo).trans HR.out.z
                  have hf9 : w2.frozen? ⟨H, 6 + k, none⟩ = false := frozen_of w2 H _ _ _ hz9
                  have hc9 : w2.cell? ⟨H, 6 + k, none⟩ = some (.slice A q c) := by rw [cell_row w2 H (6 + k) _ _ hz9, List.getElem?_toArray, snL_get _ _ hk3, hcv]
                  have hstep := HR.out.step hk3 hHo hb9 hown2 HD.out.2.2
                  have HSTEP := Lib.hid hstep; clear hstep hz9
                  refine hK.out _ _ (by exact hS9) (fun hHeld => ?_)
                  clear hK K
                  (try simp only [Act.put, List.setIfInBounds_toArray, List.set_cons_zero, List.set_cons_succ, List.getElem_toArray, List.getElem_cons_succ, List.getElem_cons_zero])
                  (try dsimp only [List.getElem_toArray, List.getElem_cons_succ, List.getElem_cons_zero])
                  refine wpAnyH_take (i := 19) (v := ?_) rfl (by kernel_rfl) (by kernel_rfl) (by kernel_rfl) (fun _ _ _ h => h) (Or.inl ⟨by kernel_rfl, ?_⟩) hHeld ?_
                  rotate_left
                  · (intro w' hSw; (try dsimp only at hSw); go_simp; try with_reducible rfl)
                  simp only [Act.put, List.setIfInBounds_toArray, List.set_cons_zero, List.set_cons_succ, List.getElem_toArray, List.getElem_cons_succ, List.getElem_cons_zero]
                  refine wpAnyH_ready (rs := [20]) (by kernel_rfl) (by simp) (AllReadyH.cons rfl (fun K hK => ?_) AllReadyH.nil)
                  go_simp
                  have hS10 := HX.out.2.1 _ (grown_trans HA.out.g HSTEP.out.g)
                  refine hK.out _ _ (by exact hS10) (fun hHeld => ?_)
                  clear hK K
                  (try simp only [Act.put, List.setIfInBounds_toArray, List.set_cons_zero, List.set_cons_succ, List.getElem_toArray, List.getElem_cons_succ, List.getElem_cons_zero])
                  refine wpAnyH_done (by kernel_rfl) ?_ _
                  go_wp2_with fail
                  go_roundw
                  case rel => exact ⟨q + 1, _, by have := HE.out; omega, by have := HE.out; go_num, HSTEP.out⟩
                  case measure => have := HE.out; simp [intOf]; omega
                · skip
                  go_simp
                  (with_reducible refine (HD.out.1 _).mono ?_)
                  rintro e W1 ⟨v, rfl, rfl, hbb⟩
                  have hS1 := (hbb.cell (p := ⟨b1, o1 + (7 + k), none⟩) (World.block_lt_of_cell? _ _ hS0)).trans hS0
                  have hC1 := (hbb.cell (p := ⟨H, 6 + k, none⟩) (World.block_lt_of_cell? _ _ hC0)).trans hC0
                  have hB1 := hB0.trans (hbb.mono hso0)
                  have hO1 := own_below hO0 hbb
                  have hso1 := Nat.le_trans hso0 hbb.size
                  refine hK.out _ _ (by exact hS1) (fun hHeld => ?_)
                  clear hK K
                  (try simp only [Act.put, List.setIfInBounds_toArray, List.set_cons_zero, List.set_cons_succ, List.getElem_toArray, List.getElem_cons_succ, List.getElem_cons_zero])
                  refine wpAnyH_ready (rs := [4, 15]) (by kernel_rfl) (by simp) (AllReadyH.cons rfl (fun K hK => ?_) (AllReadyH.cons rfl (fun K hK => ?_) AllReadyH.nil))
                  · skip
                    go_simp
                    refine hK.out _ _ (by exact hS1) (fun hHeld => ?_)
                    clear hK K
                    (try simp only [Act.put, List.setIfInBounds_toArray, List.set_cons_zero, List.set_cons_succ, List.getElem_toArray, List.getElem_cons_succ, List.getElem_cons_zero])
                    refine wpAnyH_ready (rs := [15]) (by kernel_rfl) (by simp) (AllReadyH.cons rfl (fun K hK => ?_) AllReadyH.nil)
                    go_simp
                    (with_reducible refine (HD.out.2.1 _).mono ?_)
                    rintro e W2 ⟨v, rfl, rfl, hbb⟩
                    have hS2 := (hbb.cell (p := ⟨b1, o1 + (7 + k), none⟩) (World.block_lt_of_cell? _ _ hS1)).trans hS1
                    have hC2 := (hbb.cell (p := ⟨H, 6 + k, none⟩) (World.block_lt_of_cell? _ _ hC1)).trans hC1
                    have hB2 := hB1.trans (hbb.mono hso1)
                    have hO2 := own_below hO1 hbb
                    have hso2 := Nat.le_trans hso1 hbb.size
                    refine hK.out _ _ (by exact hS2) (fun hHeld => ?_)
                    clear hK K
                    (try simp only [Act.put, List.setIfInBounds_toArray, List.set_cons_zero, List.set_cons_succ, List.getElem_toArray, List.getElem_cons_succ, List.getElem_cons_zero])
                    refine wpAnyH_ready (rs := [16]) (by kernel_rfl) (by simp) (AllReadyH.cons rfl (fun K hK => ?_) AllReadyH.nil)
                    have hS3 : (W2.alloc (.cells #[.string ⟨t.toArray⟩] 9)).cell? ⟨b1, o1 + (7 + k), none⟩ = some (.string ⟨x.toArray⟩) := (World.cell?_alloc_lt _ _ _ (World.block_lt_of_cell? _ _ hS2)).trans hS2
                    have hC3 : (W2.alloc (.cells #[.string ⟨t.toArray⟩] 9)).cell? ⟨H, 6 + k, none⟩ = some (.slice A q c) := (World.cell?_alloc_lt _ _ _ (World.block_lt_of_cell? _ _ hC2)).trans hC2
                    have hB3 : Below wo.heap.size wr (W2.alloc (.cells #[.string ⟨t.toArray⟩] 9)) := hB2.alloc hso2 _
                    have hO3 : (W2.alloc (.cells #[.string ⟨t.toArray⟩] 9)).ownsRow wo.heap.size 9 1 (.slice A q c) q (strs (Pl.namesK q x)) := hO2.alloc _
                    have hy : (W2.alloc (.cells #[.string ⟨t.toArray⟩] 9)).cell? ⟨W2.heap.size, 0, none⟩ = some (.string ⟨t.toArray⟩) := World.cell?_alloc_new _ _ _ _
                    have hso3 : wo.heap.size ≤ (W2.alloc (.cells #[.string ⟨t.toArray⟩] 9)).heap.size := by simp; omega
                    go_simp
                    generalize hA : World.alloc _ _ = W3
                    rw [show W2.alloc (.cells #[.string ⟨t.toArray⟩] 9) = W3 from hA] at hS3 hC3 hB3 hO3 hy hso3
                    clear hA
                    refine hK.out _ _ (by exact hS3) (fun hHeld => ?_)
                    clear hK K
                    (try simp only [Act.put, List.setIfInBounds_toArray, List.set_cons_zero, List.set_cons_succ, List.getElem_toArray, List.getElem_cons_succ, List.getElem_cons_zero])
                    refine wpAnyH_ready (rs := [17]) (by kernel_rfl) (by simp) (AllReadyH.cons rfl (fun K hK => ?_) AllReadyH.nil)
                    refine step_pushes rfl (.tmp 106) (.tmp 118) 23 rfl wo.heap.size 9 (.string ⟨#[]⟩) 16 Tryd.underlying23 HST.out rfl _ _ q (strs (Pl.namesK q x)) [.string ⟨t.toArray⟩] W2.heap.size 0 1 1 (by rfl) hO3 (by rfl) rfl (by omega) (fun j' u hu => by
                      rcases j' with _ | j'
                      · rw [← hu]; exact hy
                      · simp at hu) (by intro u hu; simp at hu; subst hu; rfl) hq1 (by omega) hso3 ?_
                    intro A2 c2 w2 hown2 hb2
                    have hb9 : Below wo.heap.size wr w2 := hB3.trans hb2
                    have hS9 := HX.out.2.1 w2 (grown_trans HA.out.g (grown_below HR.out.g hb9 (Nat.le_refl _)))
                    have hz9 := (hb9.block H hHo).trans HR.out.z
                    have hf9 : w2.frozen? ⟨H, 6 + k, none⟩ = false := frozen_of w2 H _ _ _ hz9
                    have hc9 : w2.cell? ⟨H, 6 + k, none⟩ = some (.slice A q c) := by rw [cell_row w2 H (6 + k) _ _ hz9, List.getElem?_toArray, snL_get _ _ hk3, hcv]
                    have hstep := HR.out.step hk3 hHo hb9 hown2 HD.out.2.2
                    have HSTEP := Lib.hid hstep; clear hstep hz9
                    refine hK.out _ _ (by exact hS9) (fun hHeld => ?_)
                    clear hK K
                    (try simp only [Act.put, List.setIfInBounds_toArray, List.set_cons_zero, List.set_cons_succ, List.getElem_toArray, List.getElem_cons_succ, List.getElem_cons_zero])
                    (try dsimp only [List.getElem_toArray, List.getElem_cons_succ, List.getElem_cons_zero])
                    refine wpAnyH_take (i := 19) (v := ?_) rfl (by kernel_rfl) (by kernel_rfl) (by kernel_rfl) (fun _ _ _ h => h) (Or.inl ⟨by kernel_rfl, ?_⟩) hHeld ?_
                    rotate_left
                    · (intro w' hSw; (try dsimp only at hSw); go_simp; try with_reducible rfl)
                    simp only [Act.put, List.setIfInBounds_toArray, List.set_cons_zero, List.set_cons_succ, List.getElem_toArray, List.getElem_cons_succ, List.getElem_cons_zero]
                    refine wpAnyH_ready (rs := [20]) (by kernel_rfl) (by simp) (AllReadyH.cons rfl (fun K hK => ?_) AllReadyH.nil)
                    go_simp
                    have hS10 := HX.out.2.1 _ (grown_trans HA.out.g HSTEP.out.g)
                    refine hK.out _ _ (by exact hS10) (fun hHeld => ?_)
                    clear hK K
                    (try simp only [Act.put, List.setIfInBounds_toArray, List.set_cons_zero, List.set_cons_succ, List.getElem_toArray, List.getElem_cons_succ, List.getElem_cons_zero])
                    refine wpAnyH_done (by kernel_rfl) ?_ _
                    go_wp2_with fail
                    go_roundw
                    case rel => exact ⟨q + 1, _, by have := HE.out; omega, by have := HE.out; go_num, HSTEP.out⟩
                    case measure => have := HE.out; simp [intOf]; omega
                  · skip
                    go_simp
                    (with_reducible refine (HD.out.2.1 _).mono ?_)
                    rintro e W2 ⟨v, rfl, rfl, hbb⟩
                    have hS2 := (hbb.cell (p := ⟨b1, o1 + (7 + k), none⟩) (World.block_lt_of_cell? _ _ hS1)).trans hS1
                    have hC2 := (hbb.cell (p := ⟨H, 6 + k, none⟩) (World.block_lt_of_cell? _ _ hC1)).trans hC1
                    have hB2 := hB1.trans (hbb.mono hso1)
                    have hO2 := own_below hO1 hbb
                    have hso2 := Nat.le_trans hso1 hbb.size
                    refine hK.out _ _ (by exact hS2) (fun hHeld => ?_)
                    clear hK K
                    (try simp only [Act.put, List.setIfInBounds_toArray, List.set_cons_zero, List.set_cons_succ, List.getElem_toArray, List.getElem_cons_succ, List.getElem_cons_zero])
                    refine wpAnyH_ready (rs := [4, 16]) (by kernel_rfl) (by simp) (AllReadyH.cons rfl (fun K hK => ?_) (AllReadyH.cons rfl (fun K hK => ?_) AllReadyH.nil))
                    · skip
                      go_simp
                      refine hK.out _ _ (by exact hS2) (fun hHeld => ?_)
                      clear hK K
                      (try simp only [Act.put, List.setIfInBounds_toArray, List.set_cons_zero, List.set_cons_succ, List.getElem_toArray, List.getElem_cons_succ, List.getElem_cons_zero])
                      refine wpAnyH_ready (rs := [16]) (by kernel_rfl) (by simp) (AllReadyH.cons rfl (fun K hK => ?_) AllReadyH.nil)
                      have hS3 : (W2.alloc (.cells #[.string ⟨t.toArray⟩] 9)).cell? ⟨b1, o1 + (7 + k), none⟩ = some (.string ⟨x.toArray⟩) := (World.cell?_alloc_lt _ _ _ (World.block_lt_of_cell? _ _ hS2)).trans hS2
                      have hC3 : (W2.alloc (.cells #[.string ⟨t.toArray⟩] 9)).cell? ⟨H, 6 + k, none⟩ = some (.slice A q c) := (World.cell?_alloc_lt _ _ _ (World.block_lt_of_cell? _ _ hC2)).trans hC2
                      have hB3 : Below wo.heap.size wr (W2.alloc (.cells #[.string ⟨t.toArray⟩] 9)) := hB2.alloc hso2 _
                      have hO3 : (W2.alloc (.cells #[.string ⟨t.toArray⟩] 9)).ownsRow wo.heap.size 9 1 (.slice A q c) q (strs (Pl.namesK q x)) := hO2.alloc _
                      have hy : (W2.alloc (.cells #[.string ⟨t.toArray⟩] 9)).cell? ⟨W2.heap.size, 0, none⟩ = some (.string ⟨t.toArray⟩) := World.cell?_alloc_new _ _ _ _
                      have hso3 : wo.heap.size ≤ (W2.alloc (.cells #[.string ⟨t.toArray⟩] 9)).heap.size := by simp; omega
                      go_simp
                      generalize hA : World.alloc _ _ = W3
                      rw [show W2.alloc (.cells #[.string ⟨t.toArray⟩] 9) = W3 from hA] at hS3 hC3 hB3 hO3 hy hso3
                      clear hA
                      refine hK.out _ _ (by exact hS3) (fun hHeld => ?_)
                      clear hK K
                      (try simp only [Act.put, List.setIfInBounds_toArray, List.set_cons_zero, List.set_cons_succ, List.getElem_toArray, List.getElem_cons_succ, List.getElem_cons_zero])
                      refine wpAnyH_ready (rs := [17]) (by kernel_rfl) (by simp) (AllReadyH.cons rfl (fun K hK => ?_) AllReadyH.nil)
                      refine step_pushes rfl (.tmp 106) (.tmp 118) 23 rfl wo.heap.size 9 (.string ⟨#[]⟩) 16 Tryd.underlying23 HST.out rfl _ _ q (strs (Pl.namesK q x)) [.string ⟨t.toArray⟩] W2.heap.size 0 1 1 (by rfl) hO3 (by rfl) rfl (by omega) (fun j' u hu => by
                        rcases j' with _ | j'
                        · rw [← hu]; exact hy
                        · simp at hu) (by intro u hu; simp at hu; subst hu; rfl) hq1 (by omega) hso3 ?_
                      intro A2 c2 w2 hown2 hb2
                      have hb9 : Below wo.heap.size wr w2 := hB3.trans hb2
                      have hS9 := HX.out.2.1 w2 (grown_trans HA.out.g (grown_below HR.out.g hb9 (Nat.le_refl _)))
                      have hz9 := (hb9.block H hHo).trans HR.out.z
                      have hf9 : w2.frozen? ⟨H, 6 + k, none⟩ = false := frozen_of w2 H _ _ _ hz9
                      have hc9 : w2.cell? ⟨H, 6 + k, none⟩ = some (.slice A q c) := by rw [cell_row w2 H (6 + k) _ _ hz9, List.getElem?_toArray, snL_get _ _ hk3, hcv]
                      have hstep := HR.out.step hk3 hHo hb9 hown2 HD.out.2.2
                      have HSTEP := Lib.hid hstep; clear hstep hz9
                      refine hK.out _ _ (by exact hS9) (fun hHeld => ?_)
                      clear hK K
                      (try simp only [Act.put, List.setIfInBounds_toArray, List.set_cons_zero, List.set_cons_succ, List.getElem_toArray, List.getElem_cons_succ, List.getElem_cons_zero])
                      (try dsimp only [List.getElem_toArray, List.getElem_cons_succ, List.getElem_cons_zero])
                      refine wpAnyH_take (i := 19) (v := ?_) rfl (by kernel_rfl) (by kernel_rfl) (by kernel_rfl) (fun _ _ _ h => h) (Or.inl ⟨by kernel_rfl, ?_⟩) hHeld ?_
                      rotate_left
                      · (intro w' hSw; (try dsimp only at hSw); go_simp; try with_reducible rfl)
                      simp only [Act.put, List.setIfInBounds_toArray, List.set_cons_zero, List.set_cons_succ, List.getElem_toArray, List.getElem_cons_succ, List.getElem_cons_zero]
                      refine wpAnyH_ready (rs := [20]) (by kernel_rfl) (by simp) (AllReadyH.cons rfl (fun K hK => ?_) AllReadyH.nil)
                      go_simp
                      have hS10 := HX.out.2.1 _ (grown_trans HA.out.g HSTEP.out.g)
                      refine hK.out _ _ (by exact hS10) (fun hHeld => ?_)
                      clear hK K
                      (try simp only [Act.put, List.setIfInBounds_toArray, List.set_cons_zero, List.set_cons_succ, List.getElem_toArray, List.getElem_cons_succ, List.getElem_cons_zero])
                      refine wpAnyH_done (by kernel_rfl) ?_ _
                      go_wp2_with fail
                      go_roundw
                      case rel => exact ⟨q + 1, _, by have := HE.out; omega, by have := HE.out; go_num, HSTEP.out⟩
                      case measure => have := HE.out; simp [intOf]; omega
                    · skip
                      have hS3 : (W2.alloc (.cells #[.string ⟨t.toArray⟩] 9)).cell? ⟨b1, o1 + (7 + k), none⟩ = some (.string ⟨x.toArray⟩) := (World.cell?_alloc_lt _ _ _ (World.block_lt_of_cell? _ _ hS2)).trans hS2
                      have hC3 : (W2.alloc (.cells #[.string ⟨t.toArray⟩] 9)).cell? ⟨H, 6 + k, none⟩ = some (.slice A q c) := (World.cell?_alloc_lt _ _ _ (World.block_lt_of_cell? _ _ hC2)).trans hC2
                      have hB3 : Below wo.heap.size wr (W2.alloc (.cells #[.string ⟨t.toArray⟩] 9)) := hB2.alloc hso2 _
                      have hO3 : (W2.alloc (.cells #[.string ⟨t.toArray⟩] 9)).ownsRow wo.heap.size 9 1 (.slice A q c) q (strs (Pl.namesK q x)) := hO2.alloc _
                      have hy : (W2.alloc (.cells #[.string ⟨t.toArray⟩] 9)).cell? ⟨W2.heap.size, 0, none⟩ = some (.string ⟨t.toArray⟩) := World.cell?_alloc_new _ _ _ _
                      have hso3 : wo.heap.size ≤ (W2.alloc (.cells #[.string ⟨t.toArray⟩] 9)).heap.size := by simp; omega
                      go_simp
                      generalize hA : World.alloc _ _ = W3
                      rw [show W2.alloc (.cells #[.string ⟨t.toArray⟩] 9) = W3 from hA] at hS3 hC3 hB3 hO3 hy hso3
                      clear hA
                      refine hK.out _ _ (by exact hS3) (fun hHeld => ?_)
                      clear hK K
                      (try simp only [Act.put, List.setIfInBounds_toArray, List.set_cons_zero, List.set_cons_succ, List.getElem_toArray, List.getElem_cons_succ, List.getElem_cons_zero])
                      refine wpAnyH_ready (rs := [4]) (by kernel_rfl) (by simp) (AllReadyH.cons rfl (fun K hK => ?_) AllReadyH.nil)
                      go_simp
                      refine hK.out _ _ (by exact hS3) (fun hHeld => ?_)
                      clear hK K
                      (try simp only [Act.put, List.setIfInBounds_toArray, List.set_cons_zero, List.set_cons_succ, List.getElem_toArray, List.getElem_cons_succ, List.getElem_cons_zero])
                      refine wpAnyH_ready (rs := [17]) (by kernel_rfl) (by simp) (AllReadyH.cons rfl (fun K hK => ?_) AllReadyH.nil)
                      refine step_pushes rfl (.tmp 106) (.tmp 118) 23 rfl wo.heap.size 9 (.string ⟨#[]⟩) 16 Tryd.underlying23 HST.out rfl _ _ q (strs (Pl.namesK q x)) [.string ⟨t.toArray⟩] W2.heap.size 0 1 1 (by rfl) hO3 (by rfl) rfl (by omega) (fun j' u hu => by
                        rcases j' with _ | j'
                        · rw [← hu]; exact hy
                        · simp at hu) (by intro u hu; simp at hu; subst hu; rfl) hq1 (by omega) hso3 ?_
                      intro A2 c2 w2 hown2 hb2
                      have hb9 : Below wo.heap.size wr w2 := hB3.trans hb2
                      have hS9 := HX.out.2.1 w2 (grown_trans HA.out.g (grown_below HR.out.g hb9 (Nat.le_refl _)))
                      have hz9 := (hb9.block H hHo).trans HR.out.z
                      have hf9 : w2.frozen? ⟨H, 6 + k, none⟩ = false := frozen_of w2 H _ _ _ hz9
                      have hc9 : w2.cell? ⟨H, 6 + k, none⟩ = some (.slice A q c) := by rw [cell_row w2 H (6 + k) _ _ hz9, List.getElem?_toArray, snL_get _ _ hk3, hcv]
                      have hstep := HR.out.step hk3 hHo hb9 hown2 HD.out.2.2
                      have HSTEP := Lib.hid hstep; clear hstep hz9
                      refine hK.out _ _ (by exact hS9) (fun hHeld => ?_)
                      clear hK K
                      (try simp only [Act.put, List.setIfInBounds_toArray, List.set_cons_zero, List.set_cons_succ, List.getElem_toArray, List.getElem_cons_succ, List.getElem_cons_zero])
                      (try dsimp only [List.getElem_toArray, List.getElem_cons_succ, List.getElem_cons_zero])
                      refine wpAnyH_take (i := 19) (v := ?_) rfl (by kernel_rfl) (by kernel_rfl) (by kernel_rfl) (fun _ _ _ h => h) (Or.inl ⟨by kernel_rfl, ?_⟩) hHeld ?_
                      rotate_left
                      · (intro w' hSw; (try dsimp only at hSw); go_simp; try with_reducible rfl)
                      simp only [Act.put, List.setIfInBounds_toArray, List.set_cons_zero, List.set_cons_succ, List.getElem_toArray, List.getElem_cons_succ, List.getElem_cons_zero]
                      refine wpAnyH_ready (rs := [20]) (by kernel_rfl) (by simp) (AllReadyH.cons rfl (fun K hK => ?_) AllReadyH.nil)
                      go_simp
                      have hS10 := HX.out.2.1 _ (grown_trans HA.out.g HSTEP.out.g)
                      refine hK.out _ _ (by exact hS10) (fun hHeld => ?_)
                      clear hK K
                      (try simp only [Act.put, List.setIfInBounds_toArray, List.set_cons_zero, List.set_cons_succ, List.getElem_toArray, List.getElem_cons_succ, List.getElem_cons_zero])
                      refine wpAnyH_done (by kernel_rfl) ?_ _
                      go_wp2_with fail
                      go_roundw
                      case rel => exact ⟨q + 1, _, by have := HE.out; omega, by have := HE.out; go_num, HSTEP.out⟩
                      case measure => have := HE.out; simp [intOf]; omega
              · have hd : decide ((e : Int) ≤ (n : Int)) = false := decide_eq_false (by omega)
                have hstop := RIn.stop (j := q) (X := Z) (W := wr) HA.out (by rw [HX.out.1]; exact HR.out) hk3 HF.out.2.2.2.2.2.1 (by rw [HX.out.1, HX.out.2.2]; have := HE.out; omega)
                have HS := Lib.hid hstop; clear hstop hcv he ha
                go_wp2_with fail
                go_roundw
                case rel => exact ⟨k + 1, Z, by omega, by go_num, HS.out⟩
                case measure => simp [intOf]; omega
          · obtain rfl : k = 3 := by omega
            have own3 : wo.ownsRow wc.heap.size 9 1 (.slice X.A0 X.n0 X.k0) X.n0 (strs s.c0) ∧ wo.ownsRow wc.heap.size 9 1 (.slice X.A1 X.n1 X.k1) X.n1 (strs s.c1) ∧ wo.ownsRow wc.heap.size 9 1 (.slice X.A2 X.n2 X.k2) X.n2 (strs s.c2) := by
              have h0 : wo.ownsRow wc.heap.size 9 1 (.slice X.A0 X.n0 X.k0) (rowC l 3 0).length (strs (rowC l 3 0)) := HA.out.rows 0 (by omega)
              have h1 : wo.ownsRow wc.heap.size 9 1 (.slice X.A1 X.n1 X.k1) (rowC l 3 1).length (strs (rowC l 3 1)) := HA.out.rows 1 (by omega)
              have h2 : wo.ownsRow wc.heap.size 9 1 (.slice X.A2 X.n2 X.k2) (rowC l 3 2).length (strs (rowC l 3 2)) := HA.out.rows 2 (by omega)
              have e0 : rowC l 3 0 = s.c0 := HF.out.2.2.2.1.1.symm
              have e1 : rowC l 3 1 = s.c1 := HF.out.2.2.2.1.2.1.symm
              have e2 : rowC l 3 2 = s.c2 := HF.out.2.2.2.1.2.2.symm
              rw [← own_cap h0, e0] at h0
              rw [← own_cap h1, e1] at h1
              rw [← own_cap h2, e2] at h2
              exact ⟨h0, h1, h2⟩
            have hok : SnOk wo s X := ⟨sl_own own3.1, sl_own own3.2.1, sl_own own3.2.2, HL0.out.2.2.2.2⟩
            have hz := HA.out.z
            have hrow := range_row hz
            have hi3 := info_sn hok
            have hone : (snL s X).toArray.all (·.oneCell') = true := all_oneCell_toArray (snL_one _ _)
            have hl3 := snL_len hok
            have hmb := fun W h => rmbytes_any s X W h HF.out.2.1 HF.out.2.2.1
            obtain ⟨⟨B, E⟩, hBE⟩ : ∃ y, Pl.mbytes s = y := ⟨_, rfl⟩
            rw [hBE] at hmb
            obtain ⟨L3, hL3⟩ : ∃ L, snL s X = L := ⟨_, rfl⟩
            rw [hL3] at hrow hi3 hone hl3 hz
            have H3 := Lib.hid (And.intro hL3 (And.intro hi3 (And.intro hone (And.intro hl3 hz))))
            have HMB := Lib.hid (And.intro hmb (And.intro hBE hok))
            have HOW := Lib.hid own3
            have hdo : Below w.heap.size w wo := by
              have hg := HA.out.g
              have h1 : Below w.heap.size w wc := HD1.out.trans (HF.out.2.2.2.2.2.2.2.mono (by have := HF.out.2.2.2.2.2.2.1; omega))
              exact ⟨hg.os.trans h1.os, hg.tape.trans h1.tape, hg.output.trans h1.output, Nat.le_trans h1.size hg.size, fun i hi => (hg.block i (Nat.lt_of_lt_of_le hi h1.size) (by intro e; injection e with e; have h2 := HF.out.2.2.2.2.1; have h3 := HF.out.2.2.2.2.2.2.1; omega)).trans (h1.block i hi)⟩
            have hR0 : wo.heap[w.heap.size]? = some (.cells C 28 (0, 0)) := by
              have h2 := HF.out.2.2.2.2.1; have h3 := HF.out.2.2.2.2.2.2.1
              have hw : wc.heap[w.heap.size]? = _ := (HF.out.2.2.2.2.2.2.2.block _ h3).trans HR1.out
              exact (HA.out.g.block _ (blk_lt hw) (by intro e; injection e with e; omega)).trans hw
            have HDO := Lib.hid (And.intro hdo hR0)
            clear own3 hok hz hone hl3 hmb hBE hL3 hdo hR0
            go_wp2_with (with_reducible refine wpList_load_mid rfl 28 _ rfl H 0 rfl L3 _ hrow Tryd.underlying28 rfl hi3 ?_)
            rw [← H3.out.1]
            (with_reducible refine (HMB.out.1 _ HMB.out.2.2).mono ?_)
            rintro en w5 ⟨v, rfl, rfl, hb5⟩
            rw [H3.out.1]
            unfold bytesV
            have hR5 := (hb5.block _ (blk_lt HDO.out.2)).trans HDO.out.2
            have hd5 := HDO.out.1.trans (hb5.mono HDO.out.1.size)
            have hz5 := (hb5.block _ (blk_lt H3.out.2.2.2.2)).trans H3.out.2.2.2.2
            have hrow5 := range_row hz5
            have HR5 := Lib.hid (And.intro hR5 (And.intro hd5 (And.intro hrow5 (And.intro (own_below HOW.out.1 hb5) (And.intro (own_below HOW.out.2.1 hb5) (own_below HOW.out.2.2 hb5))))))
            clear hR5 hd5 hz5 hrow5 hrow hb5
            by_cases hE : E ≠ 0
            · have hne : ((E : Int) == 0) = false := by rw [beq_eq_false_iff_ne]; omega
              have hne' : ((E : Int) != 0) = true := by unfold bne; rw [hne]; rfl
              have HB := Lib.hid (show Pl.mof b = (Pl.zeroS, _) by exact HOKL.out.2.2.2 (by cases h : Pl.okL l with | false => rfl | true => (have h1 := HOKL.out.1.1 h; rw [HOKL.out.2.2.1, HMB.out.2.1] at h1; injection h1 with _ h1; exact absurd h1 hE)))
              have hth := HZ.out.2.2.2.1 w5 HR5.out.1
              have HBE := Lib.hid (HR5.out.2.1)
              go_wp2_with (first
                | (with_reducible refine wpList_build_snap HZ.out.1 rfl rfl ?_)
                | (with_reducible refine wpList_store_mid rfl 28 _ _ rfl w.heap.size 0 ZS.toArray rfl rfl hth HZ.out.2.2.1 HZ.out.2.1 ?_))
              refine bodyPost_ret (results_cell2 (cs := ZS) rfl rfl (World.rangeAt_setCells_same _ _ _ _ (by simpa using hth)) Tryd.underlying28 rfl (by have := HZ.out.2.2.1; simpa using this)) rfl ?_
              exact ⟨_, rfl, ⟨cx0, by rw [HB.out, HZ.out.1]; rfl, by rw [HB.out]; exact ok_zero _, cxNew_zero _⟩, HBE.out.trans (Lib.below_setCells_w (Nat.le_refl _) _ _ _)⟩
            obtain rfl : E = 0 := by omega
            clear hE
            by_cases hBb : B = b
            rotate_left
            · have hne : (B == b) = false := beq_eq_false_iff_ne.2 hBb
              have hne' : (B != b) = true := by unfold bne; rw [hne]; rfl
              have HB := Lib.hid (show Pl.mof b = (Pl.zeroS, _) by exact HOKL.out.2.2.2 (by cases h : Pl.okL l with | false => rfl | true => (have h1 := HOKL.out.1.1 h; rw [HOKL.out.2.2.1, HMB.out.2.1] at h1; injection h1 with h1 _; exact absurd h1 hBb)))
              have hth := HZ.out.2.2.2.1 w5 HR5.out.1
              have HBE := Lib.hid (HR5.out.2.1)
              go_wp2_with (first
                | (with_reducible refine wpList_build_snap HZ.out.1 rfl rfl ?_)
                | (with_reducible refine wpList_store_mid rfl 28 _ _ rfl w.heap.size 0 ZS.toArray rfl rfl hth HZ.out.2.2.1 HZ.out.2.1 ?_))
              refine bodyPost_ret (results_cell2 (cs := ZS) rfl rfl (World.rangeAt_setCells_same _ _ _ _ (by simpa using hth)) Tryd.underlying28 rfl (by have := HZ.out.2.2.1; simpa using this)) rfl ?_
              exact ⟨_, rfl, ⟨cx0, by rw [HB.out, HZ.out.1]; rfl, by rw [HB.out]; exact ok_zero _, cxNew_zero _⟩, HBE.out.trans (Lib.below_setCells_w (Nat.le_refl _) _ _ _)⟩
            subst hBb
            have t : (B == B) = true := by simp
            have t' : (B != B) = false := by simp
            have HG := Lib.hid (show Pl.mof B = (s, 0) by
              rw [HOKL.out.2.1]
              unfold Pl.mofL
              rw [if_pos (HOKL.out.1.2 (by rw [HOKL.out.2.2.1]; exact HMB.out.2.1)), HOKL.out.2.2.1])
            have hth : w5.there w.heap.size 0 L3.toArray.size := there_row HR5.out.1 (by rw [hC, List.size_toArray, H3.out.2.2.2.1]; exact Nat.le_refl _)
            have hinf3 : (Tryd.prog.info? 28).map (·.size) = some L3.toArray.size := by have := H3.out.2.1; simpa using this
            go_wp2_with (first
              | (with_reducible refine wpList_load_mid rfl 28 _ rfl H 0 rfl L3 _ HR5.out.2.2.1 Tryd.underlying28 rfl H3.out.2.1 ?_)
              | (with_reducible refine wpList_store_mid rfl 28 _ _ rfl w.heap.size 0 L3.toArray rfl rfl hth hinf3 H3.out.2.2.1 ?_))
            refine bodyPost_ret (results_cell2 (cs := L3) rfl rfl (World.rangeAt_setCells_same _ _ _ _ (by simpa using hth)) Tryd.underlying28 rfl H3.out.2.1) rfl ?_
            have hwc : w.heap.size < wc.heap.size := by have h2 := HF.out.2.2.2.2.1; have h3 := HF.out.2.2.2.2.2.2.1; have h4 := HF.out.2.2.2.2.2.1; omega
            refine ⟨_, rfl, ⟨X, by rw [HG.out, ← H3.out.1]; rfl, ?_⟩, HR5.out.2.1.trans (Lib.below_setCells_w (Nat.le_refl _) _ _ _)⟩
            rw [HG.out]
            have q0 := own_setCells hwc L3.toArray.toList 0 _ HR5.out.2.2.2.1
            have q1 := own_setCells hwc L3.toArray.toList 0 _ HR5.out.2.2.2.2.1
            have q2 := own_setCells hwc L3.toArray.toList 0 _ HR5.out.2.2.2.2.2
            exact ⟨⟨sl_own q0, sl_own q1, sl_own q2, HL0.out.2.2.2.2⟩, own_new q0 (Nat.le_of_lt hwc), own_new q1 (Nat.le_of_lt hwc), own_new q2 (Nat.le_of_lt hwc)⟩
end Go.Proofs.YtommlolhpaeioaaDoor
