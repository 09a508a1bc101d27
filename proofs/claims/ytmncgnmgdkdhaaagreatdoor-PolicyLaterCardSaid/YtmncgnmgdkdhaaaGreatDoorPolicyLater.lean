/- What went stays gone: what isn't kept isn't kept either with a later snapshot of the same machine; what others have plays no part. For every policy, all snapshots, every minute and every later snapshot. -/
import Derived.Test.YtmncgnmgdkdhaaaGreatDoorPolLaid
import Derived.Test.YtmncgnmgdkdhaaaGreatDoorShaped
import Derived.Test.YtmncgnmgdkdhaaaGreatDoorTie
import Derived.Test.YtmncgnmgdkdhaaaGreatDoorCards
import Derived.Test.YtmncgnmgdkdhaaaGreatDoorPolSm
namespace Go.Proofs.YtmncgnmgdkdhaaaGreatDoor
open Go.ChangeShapes Go.WideShapes Go.ChangeAt Go.RowKit
set_option linter.unusedVariables false
set_option linter.unusedSimpArgs false
structure LB (Bp By Bx : Nat) (p : Pl.Pol) (s : Value) (now : Int) (x : Pl.Rf) (w : World) : Prop where
  c0 : w.cell? ⟨Bp, 0, none⟩ = some (.int .i64 p.d)
  c1 : w.cell? ⟨Bp, 1, none⟩ = some (.int .i64 p.w)
  c2 : w.cell? ⟨Bp, 2, none⟩ = some (.int .i64 p.mo)
  c3 : w.cell? ⟨Bp, 3, none⟩ = some (.int .i64 p.y)
  b0 : w.cell? ⟨By, 0, none⟩ = some s
  b1 : w.cell? ⟨By, 1, none⟩ = some (.int .i64 now)
  x0 : w.cell? ⟨Bx, 0, none⟩ = some (.string ⟨x.m.toArray⟩)
  x1 : w.cell? ⟨Bx, 1, none⟩ = some (.int .i64 x.n)
  x2 : w.cell? ⟨Bx, 2, none⟩ = some (.int .i64 x.t)
  x3 : w.cell? ⟨Bx, 3, none⟩ = some (.string ⟨x.nm.toArray⟩)
  x4 : w.cell? ⟨Bx, 4, none⟩ = some (.int .i64 x.til)
theorem LB.keep {Bp By Bx C : Nat} {p : Pl.Pol} {s : Value} {now : Int} {x : Pl.Rf} {w w' : World} (h : LB Bp By Bx p s now x w) (hb : Below C w w') (h1 : Bp < C) (h2 : By < C) (h3 : Bx < C) : LB Bp By Bx p s now x w' :=
  ⟨(hb.cell (p := ⟨Bp, 0, none⟩) h1).trans h.c0, (hb.cell (p := ⟨Bp, 1, none⟩) h1).trans h.c1, (hb.cell (p := ⟨Bp, 2, none⟩) h1).trans h.c2, (hb.cell (p := ⟨Bp, 3, none⟩) h1).trans h.c3, (hb.cell (p := ⟨By, 0, none⟩) h2).trans h.b0, (hb.cell (p := ⟨By, 1, none⟩) h2).trans h.b1,
    (hb.cell (p := ⟨Bx, 0, none⟩) h3).trans h.x0, (hb.cell (p := ⟨Bx, 1, none⟩) h3).trans h.x1, (hb.cell (p := ⟨Bx, 2, none⟩) h3).trans h.x2, (hb.cell (p := ⟨Bx, 3, none⟩) h3).trans h.x3, (hb.cell (p := ⟨Bx, 4, none⟩) h3).trans h.x4⟩
theorem LB.below {Bp By Bx : Nat} {p : Pl.Pol} {s : Value} {now : Int} {x : Pl.Rf} {w w' : World} (h : LB Bp By Bx p s now x w) (hb : Below w.heap.size w w') : LB Bp By Bx p s now x w' :=
  h.keep hb (World.block_lt_of_cell? _ _ h.c0) (World.block_lt_of_cell? _ _ h.b0) (World.block_lt_of_cell? _ _ h.x0)
/-- Is y as late as x, and of x's machine? -/
def badF (x y : Pl.Rf) : Bool := (y.m == x.m) && (decide (x.t < y.t) || ((y.t == x.t) && decide (x.n ≤ y.n)))
def othF (x y : Pl.Rf) : Bool := !(y.m == x.m)
theorem oth_next (f : Pl.Rf → Bool) (l : List Pl.Rf) (k : Nat) (hk : k < l.length) : (l.take (k + 1)).all f = ((l.take k).all f && f (l.getD k default)) := by
  rw [List.take_succ_eq_append_getElem hk, List.all_append, List.getD_eq_getElem?_getD, List.getElem?_eq_getElem hk]; simp
theorem keepL_at (p : Pl.Pol) (l : List Pl.Rf) (now : Int) (j : Nat) (hj : j < l.length) : (Pl.keepD p l now).getD j false = keepF p l now (l.getD j default) := by
  rw [keepD_map, List.getD_eq_getElem?_getD, List.getElem?_map, List.getElem?_eq_getElem hj, List.getD_eq_getElem?_getD, List.getElem?_eq_getElem hj]; rfl
/-- What the statement asks of the two answers. -/
structure LaterFacts (l : List Pl.Rf) (x : Pl.Rf) (KA KB : List Bool) : Prop where
  la : KA.length = l.length
  lb : KB.length = l.length + 1
  ba : ∀ j, j < l.length → KB.getD j false = true → KA.getD j false = true
  ot : ∀ j, j < l.length → (l.getD j default).m ≠ x.m → KA.getD j false = KB.getD j false
  xx : KB.getD l.length false = true
  al : l.all (othF x) = true → ∃ z, KB = KA ++ [z]
theorem later_facts (p : Pl.Pol) (l : List Pl.Rf) (now : Int) (x : Pl.Rf) (hbad : ∀ q, q < l.length → badF x (l.getD q default) = false) : LaterFacts l x (Pl.keepD p l now) (Pl.keepD p (l ++ [x]) now) := by
  have hat : ∀ j, j < l.length → (l ++ [x]).getD j default = l.getD j default := fun j hj => by
    rw [List.getD_eq_getElem?_getD, List.getD_eq_getElem?_getD, List.getElem?_append_left hj]
  have hxx : (l ++ [x]).getD l.length default = x := by
    rw [List.getD_eq_getElem?_getD, List.getElem?_append_right (Nat.le_refl _), Nat.sub_self]; rfl
  have hz : ∀ z ∈ l ++ [x], z.m = x.m → Pl.ltr z x = false := fun z hz hm => by
    rw [List.mem_append, List.mem_singleton] at hz
    rcases hz with hz | rfl
    · obtain ⟨q, hq, rfl⟩ := Pl.ex_getD hz
      have := hbad q hq
      unfold badF at this
      simp only [hm, BEq.rfl, Bool.true_and, Bool.or_eq_false_iff, decide_eq_false_iff_not, Bool.and_eq_false_iff, beq_eq_false_iff_ne] at this
      rw [Pl.ltr_no]; omega
    · exact Pl.ltr_irrefl _
  have hot : ∀ j, j < l.length → (l.getD j default).m ≠ x.m → (Pl.keepD p l now).getD j false = (Pl.keepD p (l ++ [x]) now).getD j false := fun j hj hne => by
    rw [keepL_at _ _ _ _ hj, keepL_at _ _ _ _ (by simp; omega), hat j hj, later_other hne]
  refine ⟨Pl.keepD_len _ _ _, by rw [Pl.keepD_len]; simp, fun j hj h => ?_, hot, ?_, fun h => ?_⟩
  · rw [keepL_at _ _ _ _ (by simp; omega), hat j hj] at h
    rw [keepL_at _ _ _ _ hj]
    exact later_gone h
  · rw [keepL_at _ _ _ _ (by simp), hxx]
    exact latest_keepF p now hz
  · refine ⟨keepF p (l ++ [x]) now x, ?_⟩
    rw [keepD_map, keepD_map, List.map_append]
    congr 1
    refine List.map_congr_left fun y hy => ?_
    have := List.all_eq_true.1 h y hy
    unfold othF at this
    exact later_other (by simpa using this)
structure L4 (ba bb Bz Bx j : Nat) (fa fb : Bool) (ym xm : List UInt8) (w : World) : Prop where
  a : w.cell? ⟨ba, j, none⟩ = some (.bool fa)
  b : w.cell? ⟨bb, j, none⟩ = some (.bool fb)
  c : w.cell? ⟨Bz, 0, none⟩ = some (.string ⟨ym.toArray⟩)
  d : w.cell? ⟨Bx, 0, none⟩ = some (.string ⟨xm.toArray⟩)
theorem L4.drew {ba bb Bz Bx j : Nat} {fa fb : Bool} {ym xm : List UInt8} {w : World} (h : L4 ba bb Bz Bx j fa fb ym xm w) : L4 ba bb Bz Bx j fa fb ym xm w.drew := ⟨h.a, h.b, h.c, h.d⟩
theorem rd_pre {W : World} {b : Nat} {K K2 : List Bool} (h : W.heap[b]? = some (.cells (bools (K ++ K2)).toArray 4 (0, 0))) : Rd W 1 (some ⟨b, 0, none⟩) K.length (bools K) := by
  refine ⟨by rw [bools_len, Nat.mul_one], fun _ => ⟨b, 0, rfl, blk_lt h, fun j hj => ?_⟩⟩
  rw [Nat.zero_add, cell_row W b j _ _ h, List.getElem?_toArray]
  unfold bools at hj ⊢
  rw [List.map_append, List.getElem?_append_left hj]
set_option maxRecDepth 100000 in
set_option maxHeartbeats 16000000 in
theorem policyLater_walk (p : Pl.Pol) (s : Value) (l : List Pl.Rf) (now : Int) (x : Pl.Rf) (w : World) (hpi : I64 p.d ∧ I64 p.w ∧ I64 p.mo ∧ I64 p.y) (hs : RfsIn w s l) (hnow : I64 now) (hxf : RfFit x) (hv : VPol w) :
    Calls Tryz.prog 6 #[polV p, .agg #[s, .int .i64 now], .agg (rfC x).toArray] w (RetB (fun v _ => v = .bool true) w) := by
  have hal := fun W h => alive_any W h
  have hgr := fun W h => great49_any s l W h
  have hkp := fun l' s' W h1 h2 h3 => keep_in p l' now s' W h1 h2 h3
  obtain ⟨A, c, rfl, hr, hA0, hbig, hfit⟩ := id hs
  have hpv : polV p = .agg #[.int .i64 p.d, .int .i64 p.w, .int .i64 p.mo, .int .i64 p.y] := rfl
  rw [hpv]
  obtain ⟨n, hn⟩ : ∃ n, l.length = n := ⟨_, rfl⟩
  rw [hn] at hgr hr hs hbig ⊢
  have hnb : n ≤ 140737488355328 := by omega
  have hxml : x.m.length ≤ 140737488355328 := hxf.2.1
  obtain ⟨G, hG⟩ : ∃ G, Pl.great49 l = G := ⟨_, rfl⟩
  rw [hG] at hgr
  obtain ⟨xm, xn, xt, xnm, xtil⟩ := x
  dsimp only at hxml
  have HH := Lib.hid (And.intro hal (And.intro hgr (And.intro hkp (And.intro hs (And.intro hfit (And.intro hn (And.intro hG (And.intro hv hA0))))))))
  have HX := Lib.hid hxf
  clear hal hgr hkp hs hfit hG hv hpv hr hA0 hpi hnow hbig hn hxf
  show Calls Tryz.prog 6 #[.agg #[.int .i64 p.d, .int .i64 p.w, .int .i64 p.mo, .int .i64 p.y], .agg #[.slice A n c, .int .i64 now], .agg #[.string ⟨xm.toArray⟩, .int .i64 xn, .int .i64 xt, .string ⟨xnm.toArray⟩, .int .i64 xtil]] w _
  go_enter Tryz.func6, Tryz.ntmps6
  go_wp2_with fail
  generalize hV : World.alloc (World.alloc (World.alloc w _) _) _ = V
  have hbV : Below w.heap.size w V := by rw [← hV]; exact (((Below.refl _ _).alloc (Nat.le_refl _) _).alloc (by simp) _).alloc (by simp; omega) _
  have h1 : V.heap[w.heap.size]? = some (.cells #[.int .i64 p.d, .int .i64 p.w, .int .i64 p.mo, .int .i64 p.y] 23 (0, 0)) := by rw [← hV]; exact (Below.heap_alloc _ _ _ (by simp; omega)).trans ((Below.heap_alloc _ _ _ (by simp)).trans (heap_alloc_new w _))
  have h2 : V.heap[w.heap.size + 1]? = some (.cells #[.slice A n c, .int .i64 now] 34 (0, 0)) := by rw [← hV]; exact (Below.heap_alloc _ _ _ (by simp)).trans (heap_alloc_2 w _ _)
  have hsz1 : ∀ o, (w.alloc o).heap.size = w.heap.size + 1 := fun o => by simp
  have h3 : V.heap[w.heap.size + 1 + 1]? = some (.cells #[.string ⟨xm.toArray⟩, .int .i64 xn, .int .i64 xt, .string ⟨xnm.toArray⟩, .int .i64 xtil] 39 (0, 0)) := by rw [← hV, ← hsz1 (.cells #[.int .i64 p.d, .int .i64 p.w, .int .i64 p.mo, .int .i64 p.y] 23)]; exact heap_alloc_2 _ _ _
  have hlb : LB w.heap.size (w.heap.size + 1) (w.heap.size + 1 + 1) p (.slice A n c) now ⟨xm, xn, xt, xnm, xtil⟩ V := ⟨cell_row V _ 0 _ _ h1, cell_row V _ 1 _ _ h1, cell_row V _ 2 _ _ h1, cell_row V _ 3 _ _ h1, cell_row V _ 0 _ _ h2, cell_row V _ 1 _ _ h2, cell_row V _ 0 _ _ h3, cell_row V _ 1 _ _ h3, cell_row V _ 2 _ _ h3, cell_row V _ 3 _ _ h3, cell_row V _ 4 _ _ h3⟩
  have hszV := blk_lt h3
  clear hV h1 h2 h3 hsz1
  refine (HH.out.1 _ (VPol.keep HH.out.2.2.2.2.2.2.2.1 hbV (Nat.le_refl _))).mono ?_
  rintro e w1 ⟨v, rfl, rfl, hb1⟩
  replace hlb := hlb.below hb1
  replace hbV := hbV.trans (hb1.mono hbV.size)
  replace hszV := Nat.lt_of_lt_of_le hszV hb1.size
  clear hb1
  have b0 := hlb.b0
  go_wp2_with fail
  refine (HH.out.2.1 _ (HH.out.2.2.2.1.keep hbV (Nat.le_refl _))).mono ?_
  rintro e w2 ⟨v, rfl, rfl, hb2⟩
  replace hlb := hlb.below hb2
  replace hbV := hbV.trans (hb2.mono hbV.size)
  replace hszV := Nat.lt_of_lt_of_le hszV hb2.size
  clear hb2 b0
  cases hGe : G
  rotate_left
  · rw [if_pos rfl]
    clear hlb
    go_wp2_with fail
    go_ret
    exact ⟨_, rfl, rfl, hbV⟩
  rw [if_neg (by simp)]
  have hl50 : l.length ≤ 50 := Pl.great49_few (HH.out.2.2.2.2.2.2.1.trans hGe)
  have hn50 : n ≤ 50 := by rw [← HH.out.2.2.2.2.2.1]; exact hl50
  clear hGe hl50
  have z0 := hlb.x0
  dsimp only at z0
  by_cases hx100 : 100 < xm.length
  · have hx100' : (100 : Int) < (xm.length : Int) := by omega
    clear hlb
    go_wp2_with fail
    go_ret
    exact ⟨_, rfl, rfl, hbV⟩
  have hx100' : ¬ (100 : Int) < (xm.length : Int) := by omega
  have b0 := hlb.b0
  go_wp2_with fail
  clear b0 z0 hx100 hx100'
  go_loopw [7, 29] (fun av iv wq => ∃ k : Nat, k ≤ n ∧ iv = .int .i64 k ∧ av = .bool ((l.take k).all (othF ⟨xm, xn, xt, xnm, xtil⟩)) ∧ (∀ q, q < k → badF ⟨xm, xn, xt, xnm, xtil⟩ (l.getD q default) = false) ∧ LB w.heap.size (w.heap.size + 1) (w.heap.size + 1 + 1) p (.slice A n c) now ⟨xm, xn, xt, xnm, xtil⟩ wq ∧ Below w.heap.size w wq ∧ w.heap.size + 1 + 1 < wq.heap.size) (fun _ iv _ => n - (intOf iv).toNat)
  case atStart => exact ⟨0, by omega, rfl, rfl, fun q hq => absurd hq (by omega), hlb, hbV, hszV⟩
  case round =>
    clear hlb hbV hszV
    obtain ⟨k, hk, rfl, rfl, hbad, hlb, hbV, hszV⟩ := hrel
    by_cases hkn : k < n
    · obtain ⟨A', c', e, hr1, -⟩ := HH.out.2.2.2.1.keep hbV (Nat.le_refl _)
      injection e with e1 e2 e3
      subst e1 e3
      rw [HH.out.2.2.2.2.2.1] at hr1
      clear e2
      obtain ⟨b, off, hA, hbw, hrf⟩ := hr1.rf HH.out.2.2.2.2.2.1 hkn
      subst hA
      obtain ⟨y, hy⟩ : ∃ y, l.getD k default = y := ⟨_, rfl⟩
      obtain ⟨d0, d1, d2, d3, d4⟩ := hrf y hy
      have hnx := oth_next (othF ⟨xm, xn, xt, xnm, xtil⟩) l k (by rw [HH.out.2.2.2.2.2.1]; exact hkn)
      rw [hy] at hnx
      obtain ⟨B, hB⟩ : ∃ B, (l.take k).all (othF ⟨xm, xn, xt, xnm, xtil⟩) = B := ⟨_, rfl⟩
      rw [hB] at hnx ⊢
      have k0 : (0 : Int) ≤ (k : Int) := by omega
      have k1 : (k : Int) < (n : Int) := by omega
      obtain ⟨ym, yn, yt, ynm, ytil⟩ := y
      dsimp only at d0 d1 d2 d3 d4
      have HI := Lib.hid (And.intro hbad (And.intro hlb (And.intro hbV (And.intro hnx (And.intro hy hszV))))); clear hbad hlb hbV hnx hB hy hrf hbw hr1 hszV
      go_upto_region 9 with (fail)
      generalize hV : World.alloc wr _ = V
      have hz2 : V.heap[wr.heap.size]? = some (.cells #[.string ⟨ym.toArray⟩, .int .i64 yn, .int .i64 yt, .string ⟨ynm.toArray⟩, .int .i64 ytil] 39 (0, 0)) := by rw [← hV]; exact heap_alloc_new wr _
      have hbW : Below wr.heap.size wr V := by rw [← hV]; exact (Below.refl _ _).alloc (Nat.le_refl _) _
      have hlb := HI.out.2.1.below hbW
      have hbd := HI.out.2.2.1.trans (hbW.mono HI.out.2.2.1.size)
      have hszV := Nat.lt_of_lt_of_le HI.out.2.2.2.2.2 hbW.size
      clear hV hbW d0 d1 d2 d3 d4
      generalize wr.heap.size = Bz at hz2 ⊢
      have e0 := hlb.x0
      have e1 := hlb.x1
      have e2 := hlb.x2
      dsimp only at e0 e1 e2
      have d0 : V.cell? ⟨Bz, 0, none⟩ = some (.string ⟨ym.toArray⟩) := cell_row V _ 0 _ _ hz2
      have d1 : V.cell? ⟨Bz, 1, none⟩ = some (.int .i64 yn) := cell_row V _ 1 _ _ hz2
      have d2 : V.cell? ⟨Bz, 2, none⟩ = some (.int .i64 yt) := cell_row V _ 2 _ _ hz2
      have fin : ∀ b', (B && othF ⟨xm, xn, xt, xnm, xtil⟩ ⟨ym, yn, yt, ynm, ytil⟩) = b' → badF ⟨xm, xn, xt, xnm, xtil⟩ ⟨ym, yn, yt, ynm, ytil⟩ = false → (∃ k_1 : Nat, k_1 ≤ n ∧ Value.int .i64 ((k : Int) + 1) = .int .i64 k_1 ∧ Value.bool b' = .bool ((l.take k_1).all (othF ⟨xm, xn, xt, xnm, xtil⟩)) ∧ (∀ q, q < k_1 → badF ⟨xm, xn, xt, xnm, xtil⟩ (l.getD q default) = false) ∧ LB w.heap.size (w.heap.size + 1) (w.heap.size + 1 + 1) p (.slice (some ⟨b, off, none⟩) n c) now ⟨xm, xn, xt, xnm, xtil⟩ V ∧ Below w.heap.size w V ∧ w.heap.size + 1 + 1 < V.heap.size) ∧ n - (intOf (.int .i64 ((k : Int) + 1))).toNat < n - (intOf (.int .i64 (k : Int))).toNat := fun b' hb' hbf =>
        ⟨⟨k + 1, by omega, by rw [Int.natCast_add]; rfl, by rw [HI.out.2.2.2.1, hb'], fun q hq => by
          rcases Nat.lt_or_ge q k with h | h
          · exact HI.out.1 q h
          · obtain rfl : q = k := by omega
            rw [HI.out.2.2.2.2.1]; exact hbf, hlb, hbd, hszV⟩, by simp [intOf]; omega⟩
      have HF := Lib.hid fin; clear fin hlb hz2
      by_cases hm : ym = xm
      · have q1 : (ym == xm) = true := by rw [hm]; simp
        have HM := Lib.hid hm; clear hm
        by_cases ht : xt < yt
        · go_wp2_with fail
          go_ret
          exact ⟨_, rfl, rfl, hbd⟩
        · by_cases ht2 : yt = xt
          · have q2 : (yt == xt) = true := by rw [ht2]; simp
            have HT := Lib.hid ht2; clear ht2
            by_cases hn2 : xn ≤ yn
            · go_wp2_with fail
              go_ret
              exact ⟨_, rfl, rfl, hbd⟩
            · cases B <;> go_wp2_with fail
              all_goals exact HF.out _ (by unfold othF; simp [HM.out]) (by unfold badF; simp [HM.out, HT.out, hn2])
          · have q2 : (yt == xt) = false := beq_eq_false_iff_ne.2 ht2
            have HT := Lib.hid ht2; clear ht2
            cases B <;> go_wp2_with fail
            all_goals exact HF.out _ (by unfold othF; simp [HM.out]) (by unfold badF; simp [HM.out, HT.out, ht])
      · have q1 : (ym == xm) = false := beq_eq_false_iff_ne.2 hm
        have HM := Lib.hid hm; clear hm
        cases B <;> go_wp2_with fail
        all_goals exact HF.out _ (by unfold othF; simp [HM.out]) (by unfold badF; simp [HM.out])
    obtain rfl : n = k := by omega
    have htk : l.take n = l := List.take_of_length_le (by rw [HH.out.2.2.2.2.2.1]; exact Nat.le_refl _)
    rw [htk]
    have hfacts := later_facts p l now ⟨xm, xn, xt, xnm, xtil⟩ (by rw [HH.out.2.2.2.2.2.1]; exact hbad)
    have hlx : (l ++ [(⟨xm, xn, xt, xnm, xtil⟩ : Pl.Rf)]).length = n + 1 := by rw [List.length_append, HH.out.2.2.2.2.2.1]; rfl
    have hk1 := fun W h => HH.out.2.2.1 l (.slice A n c) W (by rw [HH.out.2.2.2.2.2.1]; omega) h HH.out.2.2.2.2.1
    have hk2 := fun s' W h => HH.out.2.2.1 (l ++ [⟨xm, xn, xt, xnm, xtil⟩]) s' W (by rw [hlx]; omega) h (fun y hy => by
      rw [List.mem_append, List.mem_singleton] at hy
      rcases hy with hy | rfl
      · exact HH.out.2.2.2.2.1 y hy
      · exact HX.out)
    rw [HH.out.2.2.2.2.2.1] at hk1
    rw [hlx] at hk2
    obtain ⟨KA, hKA⟩ : ∃ K, Pl.keepD p l now = K := ⟨_, rfl⟩
    obtain ⟨KB, hKB⟩ : ∃ K, Pl.keepD p (l ++ [⟨xm, xn, xt, xnm, xtil⟩]) now = K := ⟨_, rfl⟩
    rw [hKA] at hk1 hfacts
    rw [hKB] at hk2 hfacts
    obtain ⟨AL, hAL⟩ : ∃ b, l.all (othF ⟨xm, xn, xt, xnm, xtil⟩) = b := ⟨_, rfl⟩
    rw [hAL]
    have hsv := HH.out.2.2.2.1
    have hr1 : Rd wr 5 A n (rfCs l) := by
      obtain ⟨A', c', e, hr1, -⟩ := hsv.keep hbV (Nat.le_refl _)
      injection e with e1 e2 e3
      subst e1 e3
      rw [HH.out.2.2.2.2.2.1] at hr1; exact hr1
    have HK := Lib.hid (And.intro hk1 (And.intro hk2 (And.intro hfacts hAL)))
    clear hk1 hk2 hfacts hKA hKB hAL hlx htk hsv hbad
    go_upto_region 13 with (fail)
    refine wp_region_held_drew (S := (fun w' => LB w.heap.size (w.heap.size + 1) (w.heap.size + 1 + 1) p (.slice A n c) now ⟨xm, xn, xt, xnm, xtil⟩ w')) (by kernel_rfl) (by exact hlb.below (Below.refl _ _).drew) (fun hHeld => ?_)
    replace hr1 := hr1.drew
    have hbd := hbV.drew
    have hBW : w.heap.size + 1 + 1 < wr.drew.heap.size := hszV
    clear hlb hbV hszV
    generalize wr.drew = W1 at hHeld hbd hr1 hBW ⊢
    obtain ⟨B0, hB0⟩ : ∃ B0, W1.heap.size = B0 := ⟨_, rfl⟩
    have hw1 : w.heap.size + 1 + 1 < B0 := by omega
    have hw0 : w.heap.size ≤ B0 := by omega
    replace hBW : B0 ≤ W1.heap.size := by omega
    clear hB0
    refine wpAnyH_take (i := 0) (v := ?_) rfl (by kernel_rfl) (by kernel_rfl) (by kernel_rfl) (fun _ _ _ h => h) (Or.inl ⟨by kernel_rfl, ?_⟩) hHeld ?_
    rotate_left
    · (intro w' hSw; obtain ⟨hS0, hS1, hS2, hS3, hS4, hS5, hS6, hS7, hS8, hS9, hS10⟩ := hSw; go_simp; try with_reducible rfl)
    simp only [Act.put, List.setIfInBounds_toArray, List.set_cons_zero, List.set_cons_succ, List.getElem_toArray, List.getElem_cons_succ, List.getElem_cons_zero]
    refine wpAnyH_take (i := 1) (v := ?_) rfl (by kernel_rfl) (by kernel_rfl) (by kernel_rfl) (fun _ _ _ h => h) (Or.inl ⟨by kernel_rfl, ?_⟩) hHeld ?_
    rotate_left
    · (intro w' hSw; obtain ⟨hS0, hS1, hS2, hS3, hS4, hS5, hS6, hS7, hS8, hS9, hS10⟩ := hSw; go_simp; try with_reducible rfl)
    simp only [Act.put, List.setIfInBounds_toArray, List.set_cons_zero, List.set_cons_succ, List.getElem_toArray, List.getElem_cons_succ, List.getElem_cons_zero]
    refine wpAnyH_take (i := 2) (v := ?_) rfl (by kernel_rfl) (by kernel_rfl) (by kernel_rfl) (fun _ _ _ h => h) (Or.inl ⟨by kernel_rfl, ?_⟩) hHeld ?_
    rotate_left
    · (intro w' hSw; obtain ⟨hS0, hS1, hS2, hS3, hS4, hS5, hS6, hS7, hS8, hS9, hS10⟩ := hSw; go_simp; try with_reducible rfl)
    simp only [Act.put, List.setIfInBounds_toArray, List.set_cons_zero, List.set_cons_succ, List.getElem_toArray, List.getElem_cons_succ, List.getElem_cons_zero]
    refine wpAnyH_take (i := 3) (v := ?_) rfl (by kernel_rfl) (by kernel_rfl) (by kernel_rfl) (fun _ _ _ h => h) (Or.inl ⟨by kernel_rfl, ?_⟩) hHeld ?_
    rotate_left
    · (intro w' hSw; obtain ⟨hS0, hS1, hS2, hS3, hS4, hS5, hS6, hS7, hS8, hS9, hS10⟩ := hSw; go_simp; try with_reducible rfl)
    simp only [Act.put, List.setIfInBounds_toArray, List.set_cons_zero, List.set_cons_succ, List.getElem_toArray, List.getElem_cons_succ, List.getElem_cons_zero]
    refine wpAnyH_take (i := 4) (v := ?_) rfl (by kernel_rfl) (by kernel_rfl) (by kernel_rfl) (fun _ _ _ h => h) (Or.inl ⟨by kernel_rfl, ?_⟩) hHeld ?_
    rotate_left
    · (intro w' hSw; obtain ⟨hS0, hS1, hS2, hS3, hS4, hS5, hS6, hS7, hS8, hS9, hS10⟩ := hSw; go_simp; try with_reducible rfl)
    simp only [Act.put, List.setIfInBounds_toArray, List.set_cons_zero, List.set_cons_succ, List.getElem_toArray, List.getElem_cons_succ, List.getElem_cons_zero]
    refine wpAnyH_take (i := 6) (v := ?_) rfl (by kernel_rfl) (by kernel_rfl) (by kernel_rfl) (fun _ _ _ h => h) (Or.inl ⟨by kernel_rfl, ?_⟩) hHeld ?_
    rotate_left
    · (intro w' hSw; obtain ⟨hS0, hS1, hS2, hS3, hS4, hS5, hS6, hS7, hS8, hS9, hS10⟩ := hSw; go_simp; try with_reducible rfl)
    simp only [Act.put, List.setIfInBounds_toArray, List.set_cons_zero, List.set_cons_succ, List.getElem_toArray, List.getElem_cons_succ, List.getElem_cons_zero]
    refine wpAnyH_take (i := 8) (v := ?_) rfl (by kernel_rfl) (by kernel_rfl) (by kernel_rfl) (fun _ _ _ h => h) (Or.inl ⟨by kernel_rfl, ?_⟩) hHeld ?_
    rotate_left
    · (intro w' hSw; obtain ⟨hS0, hS1, hS2, hS3, hS4, hS5, hS6, hS7, hS8, hS9, hS10⟩ := hSw; go_simp; try with_reducible rfl)
    simp only [Act.put, List.setIfInBounds_toArray, List.set_cons_zero, List.set_cons_succ, List.getElem_toArray, List.getElem_cons_succ, List.getElem_cons_zero]
    refine wpAnyH_take (i := 9) (v := ?_) rfl (by kernel_rfl) (by kernel_rfl) (by kernel_rfl) (fun _ _ _ h => h) (Or.inl ⟨by kernel_rfl, ?_⟩) hHeld ?_
    rotate_left
    · (intro w' hSw; obtain ⟨hS0, hS1, hS2, hS3, hS4, hS5, hS6, hS7, hS8, hS9, hS10⟩ := hSw; go_simp; try with_reducible rfl)
    simp only [Act.put, List.setIfInBounds_toArray, List.set_cons_zero, List.set_cons_succ, List.getElem_toArray, List.getElem_cons_succ, List.getElem_cons_zero]
    refine wpAnyH_take (i := 11) (v := ?_) rfl (by kernel_rfl) (by kernel_rfl) (by kernel_rfl) (fun _ _ _ h => h) (Or.inl ⟨by kernel_rfl, ?_⟩) hHeld ?_
    rotate_left
    · (intro w' hSw; obtain ⟨hS0, hS1, hS2, hS3, hS4, hS5, hS6, hS7, hS8, hS9, hS10⟩ := hSw; go_simp; try with_reducible rfl)
    simp only [Act.put, List.setIfInBounds_toArray, List.set_cons_zero, List.set_cons_succ, List.getElem_toArray, List.getElem_cons_succ, List.getElem_cons_zero]
    refine wpAnyH_take (i := 14) (v := ?_) rfl (by kernel_rfl) (by kernel_rfl) (by kernel_rfl) (fun _ _ _ h => h) (Or.inl ⟨by kernel_rfl, ?_⟩) hHeld ?_
    rotate_left
    · (intro w' hSw; obtain ⟨hS0, hS1, hS2, hS3, hS4, hS5, hS6, hS7, hS8, hS9, hS10⟩ := hSw; go_simp; try with_reducible rfl)
    simp only [Act.put, List.setIfInBounds_toArray, List.set_cons_zero, List.set_cons_succ, List.getElem_toArray, List.getElem_cons_succ, List.getElem_cons_zero]
    refine wpAnyH_take (i := 15) (v := ?_) rfl (by kernel_rfl) (by kernel_rfl) (by kernel_rfl) (fun _ _ _ h => h) (Or.inl ⟨by kernel_rfl, ?_⟩) hHeld ?_
    rotate_left
    · (intro w' hSw; obtain ⟨hS0, hS1, hS2, hS3, hS4, hS5, hS6, hS7, hS8, hS9, hS10⟩ := hSw; go_simp; try with_reducible rfl)
    simp only [Act.put, List.setIfInBounds_toArray, List.set_cons_zero, List.set_cons_succ, List.getElem_toArray, List.getElem_cons_succ, List.getElem_cons_zero]
    refine rest_intro (fun v5 v7 v10 v12 v13 v16 T => ((((((((T.setIfInBounds 73 v5).setIfInBounds 75 v7).setIfInBounds 78 v10).setIfInBounds 80 v12).setIfInBounds 81 v13).setIfInBounds 84 v16).setIfInBounds 10 v5).setIfInBounds 11 v16)) (fun v5 v16 W => ∃ ba bb, v5 = .slice (some ⟨ba, 0, none⟩) n n ∧ v16 = .slice (some ⟨bb, 0, none⟩) (n + 1) (n + 1) ∧ W.heap[ba]? = some (.cells (bools KA).toArray 4 (0, 0)) ∧ W.heap[bb]? = some (.cells (bools KB).toArray 4 (0, 0)) ∧ LB w.heap.size (w.heap.size + 1) (w.heap.size + 1 + 1) p (.slice A n c) now ⟨xm, xn, xt, xnm, xtil⟩ W ∧ Below w.heap.size w W) ?_ (fun hrest => ?_)
    · clear hHeld hbd hr1 hBW
      rintro v5 v7 v10 v12 v13 v16 W ⟨ba, bb, rfl, rfl, hka, hkb, hlb, hbd⟩
      simp only [List.setIfInBounds_toArray, List.set_cons_zero, List.set_cons_succ]
      have b0 := hlb.b0
      go_wp2_with fail
      clear b0
      go_loopw [102] (fun iv wq => ∃ j : Nat, j ≤ n ∧ iv = .int .i64 j ∧ wq.heap[ba]? = some (.cells (bools KA).toArray 4 (0, 0)) ∧ wq.heap[bb]? = some (.cells (bools KB).toArray 4 (0, 0)) ∧ LB w.heap.size (w.heap.size + 1) (w.heap.size + 1 + 1) p (.slice A n c) now ⟨xm, xn, xt, xnm, xtil⟩ wq ∧ Below w.heap.size w wq) (fun iv _ => n - (intOf iv).toNat)
      case atStart => exact ⟨0, by omega, rfl, hka, hkb, hlb, hbd⟩
      case round =>
        clear hka hkb hlb hbd
        obtain ⟨j, hj, rfl, hka, hkb, hlb, hbd⟩ := hrel
        by_cases hjn : j < n
        · obtain ⟨A', c', e, hr1, -⟩ := HH.out.2.2.2.1.keep hbd (Nat.le_refl _)
          injection e with e1 e2 e3
          subst e1 e3
          rw [HH.out.2.2.2.2.2.1] at hr1
          clear e2
          obtain ⟨b, off, hA, hbw, hrf⟩ := hr1.rf HH.out.2.2.2.2.2.1 hjn
          subst hA
          obtain ⟨y, hy⟩ : ∃ y, l.getD j default = y := ⟨_, rfl⟩
          obtain ⟨d0, d1, d2, d3, d4⟩ := hrf y hy
          have j0 : (0 : Int) ≤ (j : Int) := by omega
          have j1 : (j : Int) < (n : Int) := by omega
          have j2 : (j : Int) < (n : Int) + 1 := by omega
          have hjl : j < l.length := by rw [HH.out.2.2.2.2.2.1]; exact hjn
          obtain ⟨fa, hfa⟩ : ∃ f, KA.getD j false = f := ⟨_, rfl⟩
          obtain ⟨fb, hfb⟩ : ∃ f, KB.getD j false = f := ⟨_, rfl⟩
          have hba : fb = true → fa = true := fun h => by rw [← hfa]; exact HK.out.2.2.1.ba j hjl (by rw [hfb]; exact h)
          have hot : y.m ≠ xm → fa = fb := fun h => by rw [← hfa, ← hfb]; exact HK.out.2.2.1.ot j hjl (by rw [hy]; exact h)
          have hlA : KA.length = n := by rw [HK.out.2.2.1.la]; exact HH.out.2.2.2.2.2.1
          have hlB : KB.length = n + 1 := by rw [HK.out.2.2.1.lb, HH.out.2.2.2.2.2.1]
          have hgA := bools_get KA j (by rw [hlA]; exact hjn)
          have hgB := bools_get KB j (by rw [hlB]; omega)
          rw [hfa] at hgA
          rw [hfb] at hgB
          obtain ⟨ym, yn, yt, ynm, ytil⟩ := y
          dsimp only at d0 d1 d2 d3 d4 hot
          have hsz0 := hbd.size
          have HI := Lib.hid (And.intro hka (And.intro hkb (And.intro hlb (And.intro hbd (And.intro hgA (And.intro hgB (And.intro hba hot)))))))
          clear hka hkb hlb hbd hgA hgB hba hot hlA hlB hfa hfb hy hrf hbw hr1 hjl
          go_upto_region 19 with (fail)
          generalize hV : World.alloc wr _ = V
          have hz2 : V.heap[wr.heap.size]? = some (.cells #[.string ⟨ym.toArray⟩, .int .i64 yn, .int .i64 yt, .string ⟨ynm.toArray⟩, .int .i64 ytil] 39 (0, 0)) := by rw [← hV]; exact heap_alloc_new wr _
          have hbW : Below wr.heap.size wr V := by rw [← hV]; exact (Below.refl _ _).alloc (Nat.le_refl _) _
          have hka3 := (hbW.block _ (blk_lt HI.out.1)).trans HI.out.1
          have hkb3 := (hbW.block _ (blk_lt HI.out.2.1)).trans HI.out.2.1
          have hl3 := HI.out.2.2.1.below hbW
          have hbd3 := HI.out.2.2.2.1.trans (hbW.mono hsz0)
          clear hV hbW d0 d1 d2 d3 d4
          generalize wr.heap.size = Bz at hz2 ⊢
          have h4 : L4 ba bb Bz (w.heap.size + 1 + 1) j fa fb ym xm V := ⟨by rw [cell_row V ba j _ _ hka3]; exact HI.out.2.2.2.2.1, by rw [cell_row V bb j _ _ hkb3]; exact HI.out.2.2.2.2.2.1, cell_row V _ 0 _ _ hz2, hl3.x0⟩
          have fin : ∀ V' : World, Below w.heap.size w V' → LB w.heap.size (w.heap.size + 1) (w.heap.size + 1 + 1) p (.slice (some ⟨b, off, none⟩) n c) now ⟨xm, xn, xt, xnm, xtil⟩ V' → V'.heap[ba]? = some (.cells (bools KA).toArray 4 (0, 0)) → V'.heap[bb]? = some (.cells (bools KB).toArray 4 (0, 0)) → (∃ j_1 : Nat, j_1 ≤ n ∧ Value.int .i64 ((j : Int) + 1) = .int .i64 j_1 ∧ V'.heap[ba]? = some (.cells (bools KA).toArray 4 (0, 0)) ∧ V'.heap[bb]? = some (.cells (bools KB).toArray 4 (0, 0)) ∧ LB w.heap.size (w.heap.size + 1) (w.heap.size + 1 + 1) p (.slice (some ⟨b, off, none⟩) n c) now ⟨xm, xn, xt, xnm, xtil⟩ V' ∧ Below w.heap.size w V') ∧ n - (intOf (.int .i64 ((j : Int) + 1))).toNat < n - (intOf (.int .i64 (j : Int))).toNat := fun V' h1 h2 h3 h4 =>
            ⟨⟨j + 1, by omega, by rw [Int.natCast_add]; rfl, h3, h4, h2, h1⟩, by simp [intOf]; omega⟩
          have HF := Lib.hid fin; clear fin hz2
          have hba := HI.out.2.2.2.2.2.2.1
          have hot := HI.out.2.2.2.2.2.2.2
          refine wp_region_held_drew (S := (fun w' => L4 ba bb Bz (w.heap.size + 1 + 1) j fa fb ym xm w')) (by kernel_rfl) (by exact h4.drew) (fun hHeld => ?_)
          clear h4
          replace hbd3 := hbd3.drew
          replace hl3 := hl3.below (Below.refl _ _).drew
          replace hka3 : V.drew.heap[ba]? = _ := hka3
          replace hkb3 : V.drew.heap[bb]? = _ := hkb3
          generalize V.drew = V4 at hHeld hbd3 hl3 hka3 hkb3 ⊢
          have HJ := Lib.hid (And.intro hbd3 (And.intro hl3 (And.intro hka3 hkb3))); clear hbd3 hl3 hka3 hkb3
          by_cases hm : ym = xm
          · have q1 : (ym == xm) = true := by rw [hm]; simp
            clear hot hm
            cases fb
            · clear hba
              refine wpAnyH_take (i := 0) (v := ?_) rfl (by kernel_rfl) (by kernel_rfl) (by kernel_rfl) (fun _ _ _ h => h) (Or.inl ⟨by kernel_rfl, ?_⟩) hHeld ?_
              rotate_left
              · (intro w' hSw; obtain ⟨hS0, hS1, hS2, hS3⟩ := hSw; go_simp; try with_reducible rfl)
              simp only [Act.put, List.setIfInBounds_toArray, List.set_cons_zero, List.set_cons_succ, List.getElem_toArray, List.getElem_cons_succ, List.getElem_cons_zero]
              refine wpAnyH_take (i := 1) (v := ?_) rfl (by kernel_rfl) (by kernel_rfl) (by kernel_rfl) (fun _ _ _ h => h) (Or.inl ⟨by kernel_rfl, ?_⟩) hHeld ?_
              rotate_left
              · (intro w' hSw; obtain ⟨hS0, hS1, hS2, hS3⟩ := hSw; go_simp; try with_reducible rfl)
              simp only [Act.put, List.setIfInBounds_toArray, List.set_cons_zero, List.set_cons_succ, List.getElem_toArray, List.getElem_cons_succ, List.getElem_cons_zero]
              refine wpAnyH_take (i := 2) (v := ?_) rfl (by kernel_rfl) (by kernel_rfl) (by kernel_rfl) (fun _ _ _ h => h) (Or.inl ⟨by kernel_rfl, ?_⟩) hHeld ?_
              rotate_left
              · (intro w' hSw; obtain ⟨hS0, hS1, hS2, hS3⟩ := hSw; go_simp; try with_reducible rfl)
              simp only [Act.put, List.setIfInBounds_toArray, List.set_cons_zero, List.set_cons_succ, List.getElem_toArray, List.getElem_cons_succ, List.getElem_cons_zero]
              refine wpAnyH_take (i := 3) (v := ?_) rfl (by kernel_rfl) (by kernel_rfl) (by kernel_rfl) (fun _ _ _ h => h) (Or.inl ⟨by kernel_rfl, ?_⟩) hHeld ?_
              rotate_left
              · (intro w' hSw; obtain ⟨hS0, hS1, hS2, hS3⟩ := hSw; go_simp; try with_reducible rfl)
              simp only [Act.put, List.setIfInBounds_toArray, List.set_cons_zero, List.set_cons_succ, List.getElem_toArray, List.getElem_cons_succ, List.getElem_cons_zero]
              refine wpAnyH_take (i := 4) (v := ?_) rfl (by kernel_rfl) (by kernel_rfl) (by kernel_rfl) (fun _ _ _ h => h) (Or.inl ⟨by kernel_rfl, ?_⟩) hHeld ?_
              rotate_left
              · (intro w' hSw; obtain ⟨hS0, hS1, hS2, hS3⟩ := hSw; go_simp; try with_reducible rfl)
              simp only [Act.put, List.setIfInBounds_toArray, List.set_cons_zero, List.set_cons_succ, List.getElem_toArray, List.getElem_cons_succ, List.getElem_cons_zero]
              refine wpAnyH_take (i := 5) (v := undef) rfl (by kernel_rfl) (by kernel_rfl) (by kernel_rfl) (fun _ _ _ h => h) (Or.inr ⟨by kernel_rfl, rfl⟩) hHeld ?_
              simp only [Act.put, List.setIfInBounds_toArray, List.set_cons_zero, List.set_cons_succ, List.getElem_toArray, List.getElem_cons_succ, List.getElem_cons_zero]
              refine wpAnyH_take (i := 6) (v := undef) rfl (by kernel_rfl) (by kernel_rfl) (by kernel_rfl) (fun _ _ _ h => h) (Or.inr ⟨by kernel_rfl, rfl⟩) hHeld ?_
              simp only [Act.put, List.setIfInBounds_toArray, List.set_cons_zero, List.set_cons_succ, List.getElem_toArray, List.getElem_cons_succ, List.getElem_cons_zero]
              refine wpAnyH_take (i := 7) (v := undef) rfl (by kernel_rfl) (by kernel_rfl) (by kernel_rfl) (fun _ _ _ h => h) (Or.inr ⟨by kernel_rfl, rfl⟩) hHeld ?_
              simp only [Act.put, List.setIfInBounds_toArray, List.set_cons_zero, List.set_cons_succ, List.getElem_toArray, List.getElem_cons_succ, List.getElem_cons_zero]
              refine wpAnyH_take (i := 8) (v := undef) rfl (by kernel_rfl) (by kernel_rfl) (by kernel_rfl) (fun _ _ _ h => h) (Or.inr ⟨by kernel_rfl, rfl⟩) hHeld ?_
              simp only [Act.put, List.setIfInBounds_toArray, List.set_cons_zero, List.set_cons_succ, List.getElem_toArray, List.getElem_cons_succ, List.getElem_cons_zero]
              refine wpAnyH_take (i := 9) (v := undef) rfl (by kernel_rfl) (by kernel_rfl) (by kernel_rfl) (fun _ _ _ h => h) (Or.inr ⟨by kernel_rfl, rfl⟩) hHeld ?_
              simp only [Act.put, List.setIfInBounds_toArray, List.set_cons_zero, List.set_cons_succ, List.getElem_toArray, List.getElem_cons_succ, List.getElem_cons_zero]
              refine wpAnyH_take (i := 10) (v := ?_) rfl (by kernel_rfl) (by kernel_rfl) (by kernel_rfl) (fun _ _ _ h => h) (Or.inl ⟨by kernel_rfl, ?_⟩) hHeld ?_
              rotate_left
              · (intro w' hSw; obtain ⟨hS0, hS1, hS2, hS3⟩ := hSw; go_simp; try with_reducible rfl)
              simp only [Act.put, List.setIfInBounds_toArray, List.set_cons_zero, List.set_cons_succ, List.getElem_toArray, List.getElem_cons_succ, List.getElem_cons_zero]
              refine wpAnyH_take (i := 11) (v := ?_) rfl (by kernel_rfl) (by kernel_rfl) (by kernel_rfl) (fun _ _ _ h => h) (Or.inl ⟨by kernel_rfl, ?_⟩) hHeld ?_
              rotate_left
              · (intro w' hSw; obtain ⟨hS0, hS1, hS2, hS3⟩ := hSw; go_simp; try with_reducible rfl)
              simp only [Act.put, List.setIfInBounds_toArray, List.set_cons_zero, List.set_cons_succ, List.getElem_toArray, List.getElem_cons_succ, List.getElem_cons_zero]
              refine wpAnyH_take (i := 12) (v := ?_) rfl (by kernel_rfl) (by kernel_rfl) (by kernel_rfl) (fun _ _ _ h => h) (Or.inl ⟨by kernel_rfl, ?_⟩) hHeld ?_
              rotate_left
              · (intro w' hSw; obtain ⟨hS0, hS1, hS2, hS3⟩ := hSw; go_simp; try with_reducible rfl)
              simp only [Act.put, List.setIfInBounds_toArray, List.set_cons_zero, List.set_cons_succ, List.getElem_toArray, List.getElem_cons_succ, List.getElem_cons_zero]
              refine wpAnyH_take (i := 13) (v := ?_) rfl (by kernel_rfl) (by kernel_rfl) (by kernel_rfl) (fun _ _ _ h => h) (Or.inl ⟨by kernel_rfl, ?_⟩) hHeld ?_
              rotate_left
              · (intro w' hSw; obtain ⟨hS0, hS1, hS2, hS3⟩ := hSw; go_simp; try with_reducible rfl)
              simp only [Act.put, List.setIfInBounds_toArray, List.set_cons_zero, List.set_cons_succ, List.getElem_toArray, List.getElem_cons_succ, List.getElem_cons_zero]
              refine wpAnyH_take (i := 14) (v := ?_) rfl (by kernel_rfl) (by kernel_rfl) (by kernel_rfl) (fun _ _ _ h => h) (Or.inl ⟨by kernel_rfl, ?_⟩) hHeld ?_
              rotate_left
              · (intro w' hSw; obtain ⟨hS0, hS1, hS2, hS3⟩ := hSw; go_simp; try with_reducible rfl)
              simp only [Act.put, List.setIfInBounds_toArray, List.set_cons_zero, List.set_cons_succ, List.getElem_toArray, List.getElem_cons_succ, List.getElem_cons_zero]
              refine wpAnyH_take (i := 15) (v := ?_) rfl (by kernel_rfl) (by kernel_rfl) (by kernel_rfl) (fun _ _ _ h => h) (Or.inl ⟨by kernel_rfl, ?_⟩) hHeld ?_
              rotate_left
              · (intro w' hSw; obtain ⟨hS0, hS1, hS2, hS3⟩ := hSw; go_simp; try with_reducible rfl)
              simp only [Act.put, List.setIfInBounds_toArray, List.set_cons_zero, List.set_cons_succ, List.getElem_toArray, List.getElem_cons_succ, List.getElem_cons_zero]
              refine wpAnyH_take (i := 16) (v := ?_) rfl (by kernel_rfl) (by kernel_rfl) (by kernel_rfl) (fun _ _ _ h => h) (Or.inl ⟨by kernel_rfl, ?_⟩) hHeld ?_
              rotate_left
              · (intro w' hSw; obtain ⟨hS0, hS1, hS2, hS3⟩ := hSw; go_simp; try with_reducible rfl)
              simp only [Act.put, List.setIfInBounds_toArray, List.set_cons_zero, List.set_cons_succ, List.getElem_toArray, List.getElem_cons_succ, List.getElem_cons_zero]
              refine wpAnyH_take (i := 17) (v := ?_) rfl (by kernel_rfl) (by kernel_rfl) (by kernel_rfl) (fun _ _ _ h => h) (Or.inl ⟨by kernel_rfl, ?_⟩) hHeld ?_
              rotate_left
              · (intro w' hSw; obtain ⟨hS0, hS1, hS2, hS3⟩ := hSw; go_simp; try with_reducible rfl)
              simp only [Act.put, List.setIfInBounds_toArray, List.set_cons_zero, List.set_cons_succ, List.getElem_toArray, List.getElem_cons_succ, List.getElem_cons_zero]
              refine wpAnyH_take (i := 18) (v := undef) rfl (by kernel_rfl) (by kernel_rfl) (by kernel_rfl) (fun _ _ _ h => h) (Or.inr ⟨by kernel_rfl, rfl⟩) hHeld ?_
              simp only [Act.put, List.setIfInBounds_toArray, List.set_cons_zero, List.set_cons_succ, List.getElem_toArray, List.getElem_cons_succ, List.getElem_cons_zero]
              refine wpAnyH_take (i := 19) (v := undef) rfl (by kernel_rfl) (by kernel_rfl) (by kernel_rfl) (fun _ _ _ h => h) (Or.inr ⟨by kernel_rfl, rfl⟩) hHeld ?_
              simp only [Act.put, List.setIfInBounds_toArray, List.set_cons_zero, List.set_cons_succ, List.getElem_toArray, List.getElem_cons_succ, List.getElem_cons_zero]
              refine wpAnyH_take (i := 20) (v := undef) rfl (by kernel_rfl) (by kernel_rfl) (by kernel_rfl) (fun _ _ _ h => h) (Or.inr ⟨by kernel_rfl, rfl⟩) hHeld ?_
              simp only [Act.put, List.setIfInBounds_toArray, List.set_cons_zero, List.set_cons_succ, List.getElem_toArray, List.getElem_cons_succ, List.getElem_cons_zero]
              refine wpAnyH_take (i := 21) (v := undef) rfl (by kernel_rfl) (by kernel_rfl) (by kernel_rfl) (fun _ _ _ h => h) (Or.inr ⟨by kernel_rfl, rfl⟩) hHeld ?_
              simp only [Act.put, List.setIfInBounds_toArray, List.set_cons_zero, List.set_cons_succ, List.getElem_toArray, List.getElem_cons_succ, List.getElem_cons_zero]
              refine wpAnyH_take (i := 22) (v := undef) rfl (by kernel_rfl) (by kernel_rfl) (by kernel_rfl) (fun _ _ _ h => h) (Or.inr ⟨by kernel_rfl, rfl⟩) hHeld ?_
              simp only [Act.put, List.setIfInBounds_toArray, List.set_cons_zero, List.set_cons_succ, List.getElem_toArray, List.getElem_cons_succ, List.getElem_cons_zero]
              refine wpAnyH_take (i := 23) (v := undef) rfl (by kernel_rfl) (by kernel_rfl) (by kernel_rfl) (fun _ _ _ h => h) (Or.inr ⟨by kernel_rfl, rfl⟩) hHeld ?_
              simp only [Act.put, List.setIfInBounds_toArray, List.set_cons_zero, List.set_cons_succ, List.getElem_toArray, List.getElem_cons_succ, List.getElem_cons_zero]
              refine wpAnyH_take (i := 24) (v := undef) rfl (by kernel_rfl) (by kernel_rfl) (by kernel_rfl) (fun _ _ _ h => h) (Or.inr ⟨by kernel_rfl, rfl⟩) hHeld ?_
              simp only [Act.put, List.setIfInBounds_toArray, List.set_cons_zero, List.set_cons_succ, List.getElem_toArray, List.getElem_cons_succ, List.getElem_cons_zero]
              refine wpAnyH_take (i := 25) (v := undef) rfl (by kernel_rfl) (by kernel_rfl) (by kernel_rfl) (fun _ _ _ h => h) (Or.inr ⟨by kernel_rfl, rfl⟩) hHeld ?_
              simp only [Act.put, List.setIfInBounds_toArray, List.set_cons_zero, List.set_cons_succ, List.getElem_toArray, List.getElem_cons_succ, List.getElem_cons_zero]
              refine wpAnyH_take (i := 26) (v := undef) rfl (by kernel_rfl) (by kernel_rfl) (by kernel_rfl) (fun _ _ _ h => h) (Or.inr ⟨by kernel_rfl, rfl⟩) hHeld ?_
              simp only [Act.put, List.setIfInBounds_toArray, List.set_cons_zero, List.set_cons_succ, List.getElem_toArray, List.getElem_cons_succ, List.getElem_cons_zero]
              refine wpAnyH_take (i := 27) (v := ?_) rfl (by kernel_rfl) (by kernel_rfl) (by kernel_rfl) (fun _ _ _ h => h) (Or.inl ⟨by kernel_rfl, ?_⟩) hHeld ?_
              rotate_left
              · (intro w' hSw; obtain ⟨hS0, hS1, hS2, hS3⟩ := hSw; go_simp; try with_reducible rfl)
              simp only [Act.put, List.setIfInBounds_toArray, List.set_cons_zero, List.set_cons_succ, List.getElem_toArray, List.getElem_cons_succ, List.getElem_cons_zero]
              refine wpAnyH_take (i := 28) (v := ?_) rfl (by kernel_rfl) (by kernel_rfl) (by kernel_rfl) (fun _ _ _ h => h) (Or.inl ⟨by kernel_rfl, ?_⟩) hHeld ?_
              rotate_left
              · (intro w' hSw; obtain ⟨hS0, hS1, hS2, hS3⟩ := hSw; go_simp; try with_reducible rfl)
              simp only [Act.put, List.setIfInBounds_toArray, List.set_cons_zero, List.set_cons_succ, List.getElem_toArray, List.getElem_cons_succ, List.getElem_cons_zero]
              refine wpAnyH_done (by kernel_rfl) ?_ _
              go_wp2_with fail
              exact HF.out _ HJ.out.1 HJ.out.2.1 HJ.out.2.2.1 HJ.out.2.2.2
            · obtain rfl : fa = true := hba rfl
              clear hba
              refine wpAnyH_take (i := 0) (v := ?_) rfl (by kernel_rfl) (by kernel_rfl) (by kernel_rfl) (fun _ _ _ h => h) (Or.inl ⟨by kernel_rfl, ?_⟩) hHeld ?_
              rotate_left
              · (intro w' hSw; obtain ⟨hS0, hS1, hS2, hS3⟩ := hSw; go_simp; try with_reducible rfl)
              simp only [Act.put, List.setIfInBounds_toArray, List.set_cons_zero, List.set_cons_succ, List.getElem_toArray, List.getElem_cons_succ, List.getElem_cons_zero]
              refine wpAnyH_take (i := 1) (v := ?_) rfl (by kernel_rfl) (by kernel_rfl) (by kernel_rfl) (fun _ _ _ h => h) (Or.inl ⟨by kernel_rfl, ?_⟩) hHeld ?_
              rotate_left
              · (intro w' hSw; obtain ⟨hS0, hS1, hS2, hS3⟩ := hSw; go_simp; try with_reducible rfl)
              simp only [Act.put, List.setIfInBounds_toArray, List.set_cons_zero, List.set_cons_succ, List.getElem_toArray, List.getElem_cons_succ, List.getElem_cons_zero]
              refine wpAnyH_take (i := 2) (v := ?_) rfl (by kernel_rfl) (by kernel_rfl) (by kernel_rfl) (fun _ _ _ h => h) (Or.inl ⟨by kernel_rfl, ?_⟩) hHeld ?_
              rotate_left
              · (intro w' hSw; obtain ⟨hS0, hS1, hS2, hS3⟩ := hSw; go_simp; try with_reducible rfl)
              simp only [Act.put, List.setIfInBounds_toArray, List.set_cons_zero, List.set_cons_succ, List.getElem_toArray, List.getElem_cons_succ, List.getElem_cons_zero]
              refine wpAnyH_take (i := 3) (v := ?_) rfl (by kernel_rfl) (by kernel_rfl) (by kernel_rfl) (fun _ _ _ h => h) (Or.inl ⟨by kernel_rfl, ?_⟩) hHeld ?_
              rotate_left
              · (intro w' hSw; obtain ⟨hS0, hS1, hS2, hS3⟩ := hSw; go_simp; try with_reducible rfl)
              simp only [Act.put, List.setIfInBounds_toArray, List.set_cons_zero, List.set_cons_succ, List.getElem_toArray, List.getElem_cons_succ, List.getElem_cons_zero]
              refine wpAnyH_take (i := 4) (v := ?_) rfl (by kernel_rfl) (by kernel_rfl) (by kernel_rfl) (fun _ _ _ h => h) (Or.inl ⟨by kernel_rfl, ?_⟩) hHeld ?_
              rotate_left
              · (intro w' hSw; obtain ⟨hS0, hS1, hS2, hS3⟩ := hSw; go_simp; try with_reducible rfl)
              simp only [Act.put, List.setIfInBounds_toArray, List.set_cons_zero, List.set_cons_succ, List.getElem_toArray, List.getElem_cons_succ, List.getElem_cons_zero]
              refine wpAnyH_take (i := 5) (v := ?_) rfl (by kernel_rfl) (by kernel_rfl) (by kernel_rfl) (fun _ _ _ h => h) (Or.inl ⟨by kernel_rfl, ?_⟩) hHeld ?_
              rotate_left
              · (intro w' hSw; obtain ⟨hS0, hS1, hS2, hS3⟩ := hSw; go_simp; try with_reducible rfl)
              simp only [Act.put, List.setIfInBounds_toArray, List.set_cons_zero, List.set_cons_succ, List.getElem_toArray, List.getElem_cons_succ, List.getElem_cons_zero]
              refine wpAnyH_take (i := 6) (v := ?_) rfl (by kernel_rfl) (by kernel_rfl) (by kernel_rfl) (fun _ _ _ h => h) (Or.inl ⟨by kernel_rfl, ?_⟩) hHeld ?_
              rotate_left
              · (intro w' hSw; obtain ⟨hS0, hS1, hS2, hS3⟩ := hSw; go_simp; try with_reducible rfl)
              simp only [Act.put, List.setIfInBounds_toArray, List.set_cons_zero, List.set_cons_succ, List.getElem_toArray, List.getElem_cons_succ, List.getElem_cons_zero]
              refine wpAnyH_take (i := 7) (v := ?_) rfl (by kernel_rfl) (by kernel_rfl) (by kernel_rfl) (fun _ _ _ h => h) (Or.inl ⟨by kernel_rfl, ?_⟩) hHeld ?_
              rotate_left
              · (intro w' hSw; obtain ⟨hS0, hS1, hS2, hS3⟩ := hSw; go_simp; try with_reducible rfl)
              simp only [Act.put, List.setIfInBounds_toArray, List.set_cons_zero, List.set_cons_succ, List.getElem_toArray, List.getElem_cons_succ, List.getElem_cons_zero]
              refine wpAnyH_take (i := 8) (v := ?_) rfl (by kernel_rfl) (by kernel_rfl) (by kernel_rfl) (fun _ _ _ h => h) (Or.inl ⟨by kernel_rfl, ?_⟩) hHeld ?_
              rotate_left
              · (intro w' hSw; obtain ⟨hS0, hS1, hS2, hS3⟩ := hSw; go_simp; try with_reducible rfl)
              simp only [Act.put, List.setIfInBounds_toArray, List.set_cons_zero, List.set_cons_succ, List.getElem_toArray, List.getElem_cons_succ, List.getElem_cons_zero]
              refine wpAnyH_take (i := 9) (v := ?_) rfl (by kernel_rfl) (by kernel_rfl) (by kernel_rfl) (fun _ _ _ h => h) (Or.inl ⟨by kernel_rfl, ?_⟩) hHeld ?_
              rotate_left
              · (intro w' hSw; obtain ⟨hS0, hS1, hS2, hS3⟩ := hSw; go_simp; try with_reducible rfl)
              simp only [Act.put, List.setIfInBounds_toArray, List.set_cons_zero, List.set_cons_succ, List.getElem_toArray, List.getElem_cons_succ, List.getElem_cons_zero]
              refine wpAnyH_take (i := 10) (v := ?_) rfl (by kernel_rfl) (by kernel_rfl) (by kernel_rfl) (fun _ _ _ h => h) (Or.inl ⟨by kernel_rfl, ?_⟩) hHeld ?_
              rotate_left
              · (intro w' hSw; obtain ⟨hS0, hS1, hS2, hS3⟩ := hSw; go_simp; try with_reducible rfl)
              simp only [Act.put, List.setIfInBounds_toArray, List.set_cons_zero, List.set_cons_succ, List.getElem_toArray, List.getElem_cons_succ, List.getElem_cons_zero]
              refine wpAnyH_take (i := 11) (v := ?_) rfl (by kernel_rfl) (by kernel_rfl) (by kernel_rfl) (fun _ _ _ h => h) (Or.inl ⟨by kernel_rfl, ?_⟩) hHeld ?_
              rotate_left
              · (intro w' hSw; obtain ⟨hS0, hS1, hS2, hS3⟩ := hSw; go_simp; try with_reducible rfl)
              simp only [Act.put, List.setIfInBounds_toArray, List.set_cons_zero, List.set_cons_succ, List.getElem_toArray, List.getElem_cons_succ, List.getElem_cons_zero]
              refine wpAnyH_take (i := 12) (v := ?_) rfl (by kernel_rfl) (by kernel_rfl) (by kernel_rfl) (fun _ _ _ h => h) (Or.inl ⟨by kernel_rfl, ?_⟩) hHeld ?_
              rotate_left
              · (intro w' hSw; obtain ⟨hS0, hS1, hS2, hS3⟩ := hSw; go_simp; try with_reducible rfl)
              simp only [Act.put, List.setIfInBounds_toArray, List.set_cons_zero, List.set_cons_succ, List.getElem_toArray, List.getElem_cons_succ, List.getElem_cons_zero]
              refine wpAnyH_take (i := 13) (v := ?_) rfl (by kernel_rfl) (by kernel_rfl) (by kernel_rfl) (fun _ _ _ h => h) (Or.inl ⟨by kernel_rfl, ?_⟩) hHeld ?_
              rotate_left
              · (intro w' hSw; obtain ⟨hS0, hS1, hS2, hS3⟩ := hSw; go_simp; try with_reducible rfl)
              simp only [Act.put, List.setIfInBounds_toArray, List.set_cons_zero, List.set_cons_succ, List.getElem_toArray, List.getElem_cons_succ, List.getElem_cons_zero]
              refine wpAnyH_take (i := 14) (v := ?_) rfl (by kernel_rfl) (by kernel_rfl) (by kernel_rfl) (fun _ _ _ h => h) (Or.inl ⟨by kernel_rfl, ?_⟩) hHeld ?_
              rotate_left
              · (intro w' hSw; obtain ⟨hS0, hS1, hS2, hS3⟩ := hSw; go_simp; try with_reducible rfl)
              simp only [Act.put, List.setIfInBounds_toArray, List.set_cons_zero, List.set_cons_succ, List.getElem_toArray, List.getElem_cons_succ, List.getElem_cons_zero]
              refine wpAnyH_take (i := 15) (v := ?_) rfl (by kernel_rfl) (by kernel_rfl) (by kernel_rfl) (fun _ _ _ h => h) (Or.inl ⟨by kernel_rfl, ?_⟩) hHeld ?_
              rotate_left
              · (intro w' hSw; obtain ⟨hS0, hS1, hS2, hS3⟩ := hSw; go_simp; try with_reducible rfl)
              simp only [Act.put, List.setIfInBounds_toArray, List.set_cons_zero, List.set_cons_succ, List.getElem_toArray, List.getElem_cons_succ, List.getElem_cons_zero]
              refine wpAnyH_take (i := 16) (v := ?_) rfl (by kernel_rfl) (by kernel_rfl) (by kernel_rfl) (fun _ _ _ h => h) (Or.inl ⟨by kernel_rfl, ?_⟩) hHeld ?_
              rotate_left
              · (intro w' hSw; obtain ⟨hS0, hS1, hS2, hS3⟩ := hSw; go_simp; try with_reducible rfl)
              simp only [Act.put, List.setIfInBounds_toArray, List.set_cons_zero, List.set_cons_succ, List.getElem_toArray, List.getElem_cons_succ, List.getElem_cons_zero]
              refine wpAnyH_take (i := 17) (v := ?_) rfl (by kernel_rfl) (by kernel_rfl) (by kernel_rfl) (fun _ _ _ h => h) (Or.inl ⟨by kernel_rfl, ?_⟩) hHeld ?_
              rotate_left
              · (intro w' hSw; obtain ⟨hS0, hS1, hS2, hS3⟩ := hSw; go_simp; try with_reducible rfl)
              simp only [Act.put, List.setIfInBounds_toArray, List.set_cons_zero, List.set_cons_succ, List.getElem_toArray, List.getElem_cons_succ, List.getElem_cons_zero]
              refine wpAnyH_take (i := 18) (v := undef) rfl (by kernel_rfl) (by kernel_rfl) (by kernel_rfl) (fun _ _ _ h => h) (Or.inr ⟨by kernel_rfl, rfl⟩) hHeld ?_
              simp only [Act.put, List.setIfInBounds_toArray, List.set_cons_zero, List.set_cons_succ, List.getElem_toArray, List.getElem_cons_succ, List.getElem_cons_zero]
              refine wpAnyH_take (i := 19) (v := undef) rfl (by kernel_rfl) (by kernel_rfl) (by kernel_rfl) (fun _ _ _ h => h) (Or.inr ⟨by kernel_rfl, rfl⟩) hHeld ?_
              simp only [Act.put, List.setIfInBounds_toArray, List.set_cons_zero, List.set_cons_succ, List.getElem_toArray, List.getElem_cons_succ, List.getElem_cons_zero]
              refine wpAnyH_take (i := 20) (v := undef) rfl (by kernel_rfl) (by kernel_rfl) (by kernel_rfl) (fun _ _ _ h => h) (Or.inr ⟨by kernel_rfl, rfl⟩) hHeld ?_
              simp only [Act.put, List.setIfInBounds_toArray, List.set_cons_zero, List.set_cons_succ, List.getElem_toArray, List.getElem_cons_succ, List.getElem_cons_zero]
              refine wpAnyH_take (i := 21) (v := undef) rfl (by kernel_rfl) (by kernel_rfl) (by kernel_rfl) (fun _ _ _ h => h) (Or.inr ⟨by kernel_rfl, rfl⟩) hHeld ?_
              simp only [Act.put, List.setIfInBounds_toArray, List.set_cons_zero, List.set_cons_succ, List.getElem_toArray, List.getElem_cons_succ, List.getElem_cons_zero]
              refine wpAnyH_take (i := 22) (v := undef) rfl (by kernel_rfl) (by kernel_rfl) (by kernel_rfl) (fun _ _ _ h => h) (Or.inr ⟨by kernel_rfl, rfl⟩) hHeld ?_
              simp only [Act.put, List.setIfInBounds_toArray, List.set_cons_zero, List.set_cons_succ, List.getElem_toArray, List.getElem_cons_succ, List.getElem_cons_zero]
              refine wpAnyH_take (i := 23) (v := undef) rfl (by kernel_rfl) (by kernel_rfl) (by kernel_rfl) (fun _ _ _ h => h) (Or.inr ⟨by kernel_rfl, rfl⟩) hHeld ?_
              simp only [Act.put, List.setIfInBounds_toArray, List.set_cons_zero, List.set_cons_succ, List.getElem_toArray, List.getElem_cons_succ, List.getElem_cons_zero]
              refine wpAnyH_take (i := 24) (v := undef) rfl (by kernel_rfl) (by kernel_rfl) (by kernel_rfl) (fun _ _ _ h => h) (Or.inr ⟨by kernel_rfl, rfl⟩) hHeld ?_
              simp only [Act.put, List.setIfInBounds_toArray, List.set_cons_zero, List.set_cons_succ, List.getElem_toArray, List.getElem_cons_succ, List.getElem_cons_zero]
              refine wpAnyH_take (i := 25) (v := undef) rfl (by kernel_rfl) (by kernel_rfl) (by kernel_rfl) (fun _ _ _ h => h) (Or.inr ⟨by kernel_rfl, rfl⟩) hHeld ?_
              simp only [Act.put, List.setIfInBounds_toArray, List.set_cons_zero, List.set_cons_succ, List.getElem_toArray, List.getElem_cons_succ, List.getElem_cons_zero]
              refine wpAnyH_take (i := 26) (v := undef) rfl (by kernel_rfl) (by kernel_rfl) (by kernel_rfl) (fun _ _ _ h => h) (Or.inr ⟨by kernel_rfl, rfl⟩) hHeld ?_
              simp only [Act.put, List.setIfInBounds_toArray, List.set_cons_zero, List.set_cons_succ, List.getElem_toArray, List.getElem_cons_succ, List.getElem_cons_zero]
              refine wpAnyH_take (i := 27) (v := ?_) rfl (by kernel_rfl) (by kernel_rfl) (by kernel_rfl) (fun _ _ _ h => h) (Or.inl ⟨by kernel_rfl, ?_⟩) hHeld ?_
              rotate_left
              · (intro w' hSw; obtain ⟨hS0, hS1, hS2, hS3⟩ := hSw; go_simp; try with_reducible rfl)
              simp only [Act.put, List.setIfInBounds_toArray, List.set_cons_zero, List.set_cons_succ, List.getElem_toArray, List.getElem_cons_succ, List.getElem_cons_zero]
              refine wpAnyH_take (i := 28) (v := ?_) rfl (by kernel_rfl) (by kernel_rfl) (by kernel_rfl) (fun _ _ _ h => h) (Or.inl ⟨by kernel_rfl, ?_⟩) hHeld ?_
              rotate_left
              · (intro w' hSw; obtain ⟨hS0, hS1, hS2, hS3⟩ := hSw; go_simp; try with_reducible rfl)
              simp only [Act.put, List.setIfInBounds_toArray, List.set_cons_zero, List.set_cons_succ, List.getElem_toArray, List.getElem_cons_succ, List.getElem_cons_zero]
              refine wpAnyH_done (by kernel_rfl) ?_ _
              go_wp2_with fail
              exact HF.out _ HJ.out.1 HJ.out.2.1 HJ.out.2.2.1 HJ.out.2.2.2
          · have q1 : (ym == xm) = false := beq_eq_false_iff_ne.2 hm
            obtain rfl : fa = fb := hot hm
            clear hba hot hm
            cases fa
            · skip
              refine wpAnyH_take (i := 0) (v := ?_) rfl (by kernel_rfl) (by kernel_rfl) (by kernel_rfl) (fun _ _ _ h => h) (Or.inl ⟨by kernel_rfl, ?_⟩) hHeld ?_
              rotate_left
              · (intro w' hSw; obtain ⟨hS0, hS1, hS2, hS3⟩ := hSw; go_simp; try with_reducible rfl)
              simp only [Act.put, List.setIfInBounds_toArray, List.set_cons_zero, List.set_cons_succ, List.getElem_toArray, List.getElem_cons_succ, List.getElem_cons_zero]
              refine wpAnyH_take (i := 1) (v := ?_) rfl (by kernel_rfl) (by kernel_rfl) (by kernel_rfl) (fun _ _ _ h => h) (Or.inl ⟨by kernel_rfl, ?_⟩) hHeld ?_
              rotate_left
              · (intro w' hSw; obtain ⟨hS0, hS1, hS2, hS3⟩ := hSw; go_simp; try with_reducible rfl)
              simp only [Act.put, List.setIfInBounds_toArray, List.set_cons_zero, List.set_cons_succ, List.getElem_toArray, List.getElem_cons_succ, List.getElem_cons_zero]
              refine wpAnyH_take (i := 2) (v := ?_) rfl (by kernel_rfl) (by kernel_rfl) (by kernel_rfl) (fun _ _ _ h => h) (Or.inl ⟨by kernel_rfl, ?_⟩) hHeld ?_
              rotate_left
              · (intro w' hSw; obtain ⟨hS0, hS1, hS2, hS3⟩ := hSw; go_simp; try with_reducible rfl)
              simp only [Act.put, List.setIfInBounds_toArray, List.set_cons_zero, List.set_cons_succ, List.getElem_toArray, List.getElem_cons_succ, List.getElem_cons_zero]
              refine wpAnyH_take (i := 3) (v := ?_) rfl (by kernel_rfl) (by kernel_rfl) (by kernel_rfl) (fun _ _ _ h => h) (Or.inl ⟨by kernel_rfl, ?_⟩) hHeld ?_
              rotate_left
              · (intro w' hSw; obtain ⟨hS0, hS1, hS2, hS3⟩ := hSw; go_simp; try with_reducible rfl)
              simp only [Act.put, List.setIfInBounds_toArray, List.set_cons_zero, List.set_cons_succ, List.getElem_toArray, List.getElem_cons_succ, List.getElem_cons_zero]
              refine wpAnyH_take (i := 4) (v := ?_) rfl (by kernel_rfl) (by kernel_rfl) (by kernel_rfl) (fun _ _ _ h => h) (Or.inl ⟨by kernel_rfl, ?_⟩) hHeld ?_
              rotate_left
              · (intro w' hSw; obtain ⟨hS0, hS1, hS2, hS3⟩ := hSw; go_simp; try with_reducible rfl)
              simp only [Act.put, List.setIfInBounds_toArray, List.set_cons_zero, List.set_cons_succ, List.getElem_toArray, List.getElem_cons_succ, List.getElem_cons_zero]
              refine wpAnyH_take (i := 5) (v := undef) rfl (by kernel_rfl) (by kernel_rfl) (by kernel_rfl) (fun _ _ _ h => h) (Or.inr ⟨by kernel_rfl, rfl⟩) hHeld ?_
              simp only [Act.put, List.setIfInBounds_toArray, List.set_cons_zero, List.set_cons_succ, List.getElem_toArray, List.getElem_cons_succ, List.getElem_cons_zero]
              refine wpAnyH_take (i := 6) (v := undef) rfl (by kernel_rfl) (by kernel_rfl) (by kernel_rfl) (fun _ _ _ h => h) (Or.inr ⟨by kernel_rfl, rfl⟩) hHeld ?_
              simp only [Act.put, List.setIfInBounds_toArray, List.set_cons_zero, List.set_cons_succ, List.getElem_toArray, List.getElem_cons_succ, List.getElem_cons_zero]
              refine wpAnyH_take (i := 7) (v := undef) rfl (by kernel_rfl) (by kernel_rfl) (by kernel_rfl) (fun _ _ _ h => h) (Or.inr ⟨by kernel_rfl, rfl⟩) hHeld ?_
              simp only [Act.put, List.setIfInBounds_toArray, List.set_cons_zero, List.set_cons_succ, List.getElem_toArray, List.getElem_cons_succ, List.getElem_cons_zero]
              refine wpAnyH_take (i := 8) (v := undef) rfl (by kernel_rfl) (by kernel_rfl) (by kernel_rfl) (fun _ _ _ h => h) (Or.inr ⟨by kernel_rfl, rfl⟩) hHeld ?_
              simp only [Act.put, List.setIfInBounds_toArray, List.set_cons_zero, List.set_cons_succ, List.getElem_toArray, List.getElem_cons_succ, List.getElem_cons_zero]
              refine wpAnyH_take (i := 9) (v := undef) rfl (by kernel_rfl) (by kernel_rfl) (by kernel_rfl) (fun _ _ _ h => h) (Or.inr ⟨by kernel_rfl, rfl⟩) hHeld ?_
              simp only [Act.put, List.setIfInBounds_toArray, List.set_cons_zero, List.set_cons_succ, List.getElem_toArray, List.getElem_cons_succ, List.getElem_cons_zero]
              refine wpAnyH_take (i := 10) (v := ?_) rfl (by kernel_rfl) (by kernel_rfl) (by kernel_rfl) (fun _ _ _ h => h) (Or.inl ⟨by kernel_rfl, ?_⟩) hHeld ?_
              rotate_left
              · (intro w' hSw; obtain ⟨hS0, hS1, hS2, hS3⟩ := hSw; go_simp; try with_reducible rfl)
              simp only [Act.put, List.setIfInBounds_toArray, List.set_cons_zero, List.set_cons_succ, List.getElem_toArray, List.getElem_cons_succ, List.getElem_cons_zero]
              refine wpAnyH_take (i := 11) (v := ?_) rfl (by kernel_rfl) (by kernel_rfl) (by kernel_rfl) (fun _ _ _ h => h) (Or.inl ⟨by kernel_rfl, ?_⟩) hHeld ?_
              rotate_left
              · (intro w' hSw; obtain ⟨hS0, hS1, hS2, hS3⟩ := hSw; go_simp; try with_reducible rfl)
              simp only [Act.put, List.setIfInBounds_toArray, List.set_cons_zero, List.set_cons_succ, List.getElem_toArray, List.getElem_cons_succ, List.getElem_cons_zero]
              refine wpAnyH_take (i := 12) (v := ?_) rfl (by kernel_rfl) (by kernel_rfl) (by kernel_rfl) (fun _ _ _ h => h) (Or.inl ⟨by kernel_rfl, ?_⟩) hHeld ?_
              rotate_left
              · (intro w' hSw; obtain ⟨hS0, hS1, hS2, hS3⟩ := hSw; go_simp; try with_reducible rfl)
              simp only [Act.put, List.setIfInBounds_toArray, List.set_cons_zero, List.set_cons_succ, List.getElem_toArray, List.getElem_cons_succ, List.getElem_cons_zero]
              refine wpAnyH_take (i := 13) (v := ?_) rfl (by kernel_rfl) (by kernel_rfl) (by kernel_rfl) (fun _ _ _ h => h) (Or.inl ⟨by kernel_rfl, ?_⟩) hHeld ?_
              rotate_left
              · (intro w' hSw; obtain ⟨hS0, hS1, hS2, hS3⟩ := hSw; go_simp; try with_reducible rfl)
              simp only [Act.put, List.setIfInBounds_toArray, List.set_cons_zero, List.set_cons_succ, List.getElem_toArray, List.getElem_cons_succ, List.getElem_cons_zero]
              refine wpAnyH_take (i := 14) (v := ?_) rfl (by kernel_rfl) (by kernel_rfl) (by kernel_rfl) (fun _ _ _ h => h) (Or.inl ⟨by kernel_rfl, ?_⟩) hHeld ?_
              rotate_left
              · (intro w' hSw; obtain ⟨hS0, hS1, hS2, hS3⟩ := hSw; go_simp; try with_reducible rfl)
              simp only [Act.put, List.setIfInBounds_toArray, List.set_cons_zero, List.set_cons_succ, List.getElem_toArray, List.getElem_cons_succ, List.getElem_cons_zero]
              refine wpAnyH_take (i := 15) (v := ?_) rfl (by kernel_rfl) (by kernel_rfl) (by kernel_rfl) (fun _ _ _ h => h) (Or.inl ⟨by kernel_rfl, ?_⟩) hHeld ?_
              rotate_left
              · (intro w' hSw; obtain ⟨hS0, hS1, hS2, hS3⟩ := hSw; go_simp; try with_reducible rfl)
              simp only [Act.put, List.setIfInBounds_toArray, List.set_cons_zero, List.set_cons_succ, List.getElem_toArray, List.getElem_cons_succ, List.getElem_cons_zero]
              refine wpAnyH_take (i := 16) (v := ?_) rfl (by kernel_rfl) (by kernel_rfl) (by kernel_rfl) (fun _ _ _ h => h) (Or.inl ⟨by kernel_rfl, ?_⟩) hHeld ?_
              rotate_left
              · (intro w' hSw; obtain ⟨hS0, hS1, hS2, hS3⟩ := hSw; go_simp; try with_reducible rfl)
              simp only [Act.put, List.setIfInBounds_toArray, List.set_cons_zero, List.set_cons_succ, List.getElem_toArray, List.getElem_cons_succ, List.getElem_cons_zero]
              refine wpAnyH_take (i := 17) (v := ?_) rfl (by kernel_rfl) (by kernel_rfl) (by kernel_rfl) (fun _ _ _ h => h) (Or.inl ⟨by kernel_rfl, ?_⟩) hHeld ?_
              rotate_left
              · (intro w' hSw; obtain ⟨hS0, hS1, hS2, hS3⟩ := hSw; go_simp; try with_reducible rfl)
              simp only [Act.put, List.setIfInBounds_toArray, List.set_cons_zero, List.set_cons_succ, List.getElem_toArray, List.getElem_cons_succ, List.getElem_cons_zero]
              refine wpAnyH_take (i := 18) (v := ?_) rfl (by kernel_rfl) (by kernel_rfl) (by kernel_rfl) (fun _ _ _ h => h) (Or.inl ⟨by kernel_rfl, ?_⟩) hHeld ?_
              rotate_left
              · (intro w' hSw; obtain ⟨hS0, hS1, hS2, hS3⟩ := hSw; go_simp; try with_reducible rfl)
              simp only [Act.put, List.setIfInBounds_toArray, List.set_cons_zero, List.set_cons_succ, List.getElem_toArray, List.getElem_cons_succ, List.getElem_cons_zero]
              refine wpAnyH_take (i := 19) (v := ?_) rfl (by kernel_rfl) (by kernel_rfl) (by kernel_rfl) (fun _ _ _ h => h) (Or.inl ⟨by kernel_rfl, ?_⟩) hHeld ?_
              rotate_left
              · (intro w' hSw; obtain ⟨hS0, hS1, hS2, hS3⟩ := hSw; go_simp; try with_reducible rfl)
              simp only [Act.put, List.setIfInBounds_toArray, List.set_cons_zero, List.set_cons_succ, List.getElem_toArray, List.getElem_cons_succ, List.getElem_cons_zero]
              refine wpAnyH_take (i := 20) (v := ?_) rfl (by kernel_rfl) (by kernel_rfl) (by kernel_rfl) (fun _ _ _ h => h) (Or.inl ⟨by kernel_rfl, ?_⟩) hHeld ?_
              rotate_left
              · (intro w' hSw; obtain ⟨hS0, hS1, hS2, hS3⟩ := hSw; go_simp; try with_reducible rfl)
              simp only [Act.put, List.setIfInBounds_toArray, List.set_cons_zero, List.set_cons_succ, List.getElem_toArray, List.getElem_cons_succ, List.getElem_cons_zero]
              refine wpAnyH_take (i := 21) (v := ?_) rfl (by kernel_rfl) (by kernel_rfl) (by kernel_rfl) (fun _ _ _ h => h) (Or.inl ⟨by kernel_rfl, ?_⟩) hHeld ?_
              rotate_left
              · (intro w' hSw; obtain ⟨hS0, hS1, hS2, hS3⟩ := hSw; go_simp; try with_reducible rfl)
              simp only [Act.put, List.setIfInBounds_toArray, List.set_cons_zero, List.set_cons_succ, List.getElem_toArray, List.getElem_cons_succ, List.getElem_cons_zero]
              refine wpAnyH_take (i := 22) (v := ?_) rfl (by kernel_rfl) (by kernel_rfl) (by kernel_rfl) (fun _ _ _ h => h) (Or.inl ⟨by kernel_rfl, ?_⟩) hHeld ?_
              rotate_left
              · (intro w' hSw; obtain ⟨hS0, hS1, hS2, hS3⟩ := hSw; go_simp; try with_reducible rfl)
              simp only [Act.put, List.setIfInBounds_toArray, List.set_cons_zero, List.set_cons_succ, List.getElem_toArray, List.getElem_cons_succ, List.getElem_cons_zero]
              refine wpAnyH_take (i := 23) (v := ?_) rfl (by kernel_rfl) (by kernel_rfl) (by kernel_rfl) (fun _ _ _ h => h) (Or.inl ⟨by kernel_rfl, ?_⟩) hHeld ?_
              rotate_left
              · (intro w' hSw; obtain ⟨hS0, hS1, hS2, hS3⟩ := hSw; go_simp; try with_reducible rfl)
              simp only [Act.put, List.setIfInBounds_toArray, List.set_cons_zero, List.set_cons_succ, List.getElem_toArray, List.getElem_cons_succ, List.getElem_cons_zero]
              refine wpAnyH_take (i := 24) (v := ?_) rfl (by kernel_rfl) (by kernel_rfl) (by kernel_rfl) (fun _ _ _ h => h) (Or.inl ⟨by kernel_rfl, ?_⟩) hHeld ?_
              rotate_left
              · (intro w' hSw; obtain ⟨hS0, hS1, hS2, hS3⟩ := hSw; go_simp; try with_reducible rfl)
              simp only [Act.put, List.setIfInBounds_toArray, List.set_cons_zero, List.set_cons_succ, List.getElem_toArray, List.getElem_cons_succ, List.getElem_cons_zero]
              refine wpAnyH_take (i := 25) (v := ?_) rfl (by kernel_rfl) (by kernel_rfl) (by kernel_rfl) (fun _ _ _ h => h) (Or.inl ⟨by kernel_rfl, ?_⟩) hHeld ?_
              rotate_left
              · (intro w' hSw; obtain ⟨hS0, hS1, hS2, hS3⟩ := hSw; go_simp; try with_reducible rfl)
              simp only [Act.put, List.setIfInBounds_toArray, List.set_cons_zero, List.set_cons_succ, List.getElem_toArray, List.getElem_cons_succ, List.getElem_cons_zero]
              refine wpAnyH_take (i := 26) (v := ?_) rfl (by kernel_rfl) (by kernel_rfl) (by kernel_rfl) (fun _ _ _ h => h) (Or.inl ⟨by kernel_rfl, ?_⟩) hHeld ?_
              rotate_left
              · (intro w' hSw; obtain ⟨hS0, hS1, hS2, hS3⟩ := hSw; go_simp; try with_reducible rfl)
              simp only [Act.put, List.setIfInBounds_toArray, List.set_cons_zero, List.set_cons_succ, List.getElem_toArray, List.getElem_cons_succ, List.getElem_cons_zero]
              refine wpAnyH_take (i := 27) (v := ?_) rfl (by kernel_rfl) (by kernel_rfl) (by kernel_rfl) (fun _ _ _ h => h) (Or.inl ⟨by kernel_rfl, ?_⟩) hHeld ?_
              rotate_left
              · (intro w' hSw; obtain ⟨hS0, hS1, hS2, hS3⟩ := hSw; go_simp; try with_reducible rfl)
              simp only [Act.put, List.setIfInBounds_toArray, List.set_cons_zero, List.set_cons_succ, List.getElem_toArray, List.getElem_cons_succ, List.getElem_cons_zero]
              refine wpAnyH_take (i := 28) (v := ?_) rfl (by kernel_rfl) (by kernel_rfl) (by kernel_rfl) (fun _ _ _ h => h) (Or.inl ⟨by kernel_rfl, ?_⟩) hHeld ?_
              rotate_left
              · (intro w' hSw; obtain ⟨hS0, hS1, hS2, hS3⟩ := hSw; go_simp; try with_reducible rfl)
              simp only [Act.put, List.setIfInBounds_toArray, List.set_cons_zero, List.set_cons_succ, List.getElem_toArray, List.getElem_cons_succ, List.getElem_cons_zero]
              refine wpAnyH_done (by kernel_rfl) ?_ _
              go_wp2_with fail
              exact HF.out _ HJ.out.1 HJ.out.2.1 HJ.out.2.2.1 HJ.out.2.2.2
            · skip
              refine wpAnyH_take (i := 0) (v := ?_) rfl (by kernel_rfl) (by kernel_rfl) (by kernel_rfl) (fun _ _ _ h => h) (Or.inl ⟨by kernel_rfl, ?_⟩) hHeld ?_
              rotate_left
              · (intro w' hSw; obtain ⟨hS0, hS1, hS2, hS3⟩ := hSw; go_simp; try with_reducible rfl)
              simp only [Act.put, List.setIfInBounds_toArray, List.set_cons_zero, List.set_cons_succ, List.getElem_toArray, List.getElem_cons_succ, List.getElem_cons_zero]
              refine wpAnyH_take (i := 1) (v := ?_) rfl (by kernel_rfl) (by kernel_rfl) (by kernel_rfl) (fun _ _ _ h => h) (Or.inl ⟨by kernel_rfl, ?_⟩) hHeld ?_
              rotate_left
              · (intro w' hSw; obtain ⟨hS0, hS1, hS2, hS3⟩ := hSw; go_simp; try with_reducible rfl)
              simp only [Act.put, List.setIfInBounds_toArray, List.set_cons_zero, List.set_cons_succ, List.getElem_toArray, List.getElem_cons_succ, List.getElem_cons_zero]
              refine wpAnyH_take (i := 2) (v := ?_) rfl (by kernel_rfl) (by kernel_rfl) (by kernel_rfl) (fun _ _ _ h => h) (Or.inl ⟨by kernel_rfl, ?_⟩) hHeld ?_
              rotate_left
              · (intro w' hSw; obtain ⟨hS0, hS1, hS2, hS3⟩ := hSw; go_simp; try with_reducible rfl)
              simp only [Act.put, List.setIfInBounds_toArray, List.set_cons_zero, List.set_cons_succ, List.getElem_toArray, List.getElem_cons_succ, List.getElem_cons_zero]
              refine wpAnyH_take (i := 3) (v := ?_) rfl (by kernel_rfl) (by kernel_rfl) (by kernel_rfl) (fun _ _ _ h => h) (Or.inl ⟨by kernel_rfl, ?_⟩) hHeld ?_
              rotate_left
              · (intro w' hSw; obtain ⟨hS0, hS1, hS2, hS3⟩ := hSw; go_simp; try with_reducible rfl)
              simp only [Act.put, List.setIfInBounds_toArray, List.set_cons_zero, List.set_cons_succ, List.getElem_toArray, List.getElem_cons_succ, List.getElem_cons_zero]
              refine wpAnyH_take (i := 4) (v := ?_) rfl (by kernel_rfl) (by kernel_rfl) (by kernel_rfl) (fun _ _ _ h => h) (Or.inl ⟨by kernel_rfl, ?_⟩) hHeld ?_
              rotate_left
              · (intro w' hSw; obtain ⟨hS0, hS1, hS2, hS3⟩ := hSw; go_simp; try with_reducible rfl)
              simp only [Act.put, List.setIfInBounds_toArray, List.set_cons_zero, List.set_cons_succ, List.getElem_toArray, List.getElem_cons_succ, List.getElem_cons_zero]
              refine wpAnyH_take (i := 5) (v := ?_) rfl (by kernel_rfl) (by kernel_rfl) (by kernel_rfl) (fun _ _ _ h => h) (Or.inl ⟨by kernel_rfl, ?_⟩) hHeld ?_
              rotate_left
              · (intro w' hSw; obtain ⟨hS0, hS1, hS2, hS3⟩ := hSw; go_simp; try with_reducible rfl)
              simp only [Act.put, List.setIfInBounds_toArray, List.set_cons_zero, List.set_cons_succ, List.getElem_toArray, List.getElem_cons_succ, List.getElem_cons_zero]
              refine wpAnyH_take (i := 6) (v := ?_) rfl (by kernel_rfl) (by kernel_rfl) (by kernel_rfl) (fun _ _ _ h => h) (Or.inl ⟨by kernel_rfl, ?_⟩) hHeld ?_
              rotate_left
              · (intro w' hSw; obtain ⟨hS0, hS1, hS2, hS3⟩ := hSw; go_simp; try with_reducible rfl)
              simp only [Act.put, List.setIfInBounds_toArray, List.set_cons_zero, List.set_cons_succ, List.getElem_toArray, List.getElem_cons_succ, List.getElem_cons_zero]
              refine wpAnyH_take (i := 7) (v := ?_) rfl (by kernel_rfl) (by kernel_rfl) (by kernel_rfl) (fun _ _ _ h => h) (Or.inl ⟨by kernel_rfl, ?_⟩) hHeld ?_
              rotate_left
              · (intro w' hSw; obtain ⟨hS0, hS1, hS2, hS3⟩ := hSw; go_simp; try with_reducible rfl)
              simp only [Act.put, List.setIfInBounds_toArray, List.set_cons_zero, List.set_cons_succ, List.getElem_toArray, List.getElem_cons_succ, List.getElem_cons_zero]
              refine wpAnyH_take (i := 8) (v := ?_) rfl (by kernel_rfl) (by kernel_rfl) (by kernel_rfl) (fun _ _ _ h => h) (Or.inl ⟨by kernel_rfl, ?_⟩) hHeld ?_
              rotate_left
              · (intro w' hSw; obtain ⟨hS0, hS1, hS2, hS3⟩ := hSw; go_simp; try with_reducible rfl)
              simp only [Act.put, List.setIfInBounds_toArray, List.set_cons_zero, List.set_cons_succ, List.getElem_toArray, List.getElem_cons_succ, List.getElem_cons_zero]
              refine wpAnyH_take (i := 9) (v := ?_) rfl (by kernel_rfl) (by kernel_rfl) (by kernel_rfl) (fun _ _ _ h => h) (Or.inl ⟨by kernel_rfl, ?_⟩) hHeld ?_
              rotate_left
              · (intro w' hSw; obtain ⟨hS0, hS1, hS2, hS3⟩ := hSw; go_simp; try with_reducible rfl)
              simp only [Act.put, List.setIfInBounds_toArray, List.set_cons_zero, List.set_cons_succ, List.getElem_toArray, List.getElem_cons_succ, List.getElem_cons_zero]
              refine wpAnyH_take (i := 10) (v := ?_) rfl (by kernel_rfl) (by kernel_rfl) (by kernel_rfl) (fun _ _ _ h => h) (Or.inl ⟨by kernel_rfl, ?_⟩) hHeld ?_
              rotate_left
              · (intro w' hSw; obtain ⟨hS0, hS1, hS2, hS3⟩ := hSw; go_simp; try with_reducible rfl)
              simp only [Act.put, List.setIfInBounds_toArray, List.set_cons_zero, List.set_cons_succ, List.getElem_toArray, List.getElem_cons_succ, List.getElem_cons_zero]
              refine wpAnyH_take (i := 11) (v := ?_) rfl (by kernel_rfl) (by kernel_rfl) (by kernel_rfl) (fun _ _ _ h => h) (Or.inl ⟨by kernel_rfl, ?_⟩) hHeld ?_
              rotate_left
              · (intro w' hSw; obtain ⟨hS0, hS1, hS2, hS3⟩ := hSw; go_simp; try with_reducible rfl)
              simp only [Act.put, List.setIfInBounds_toArray, List.set_cons_zero, List.set_cons_succ, List.getElem_toArray, List.getElem_cons_succ, List.getElem_cons_zero]
              refine wpAnyH_take (i := 12) (v := ?_) rfl (by kernel_rfl) (by kernel_rfl) (by kernel_rfl) (fun _ _ _ h => h) (Or.inl ⟨by kernel_rfl, ?_⟩) hHeld ?_
              rotate_left
              · (intro w' hSw; obtain ⟨hS0, hS1, hS2, hS3⟩ := hSw; go_simp; try with_reducible rfl)
              simp only [Act.put, List.setIfInBounds_toArray, List.set_cons_zero, List.set_cons_succ, List.getElem_toArray, List.getElem_cons_succ, List.getElem_cons_zero]
              refine wpAnyH_take (i := 13) (v := ?_) rfl (by kernel_rfl) (by kernel_rfl) (by kernel_rfl) (fun _ _ _ h => h) (Or.inl ⟨by kernel_rfl, ?_⟩) hHeld ?_
              rotate_left
              · (intro w' hSw; obtain ⟨hS0, hS1, hS2, hS3⟩ := hSw; go_simp; try with_reducible rfl)
              simp only [Act.put, List.setIfInBounds_toArray, List.set_cons_zero, List.set_cons_succ, List.getElem_toArray, List.getElem_cons_succ, List.getElem_cons_zero]
              refine wpAnyH_take (i := 14) (v := ?_) rfl (by kernel_rfl) (by kernel_rfl) (by kernel_rfl) (fun _ _ _ h => h) (Or.inl ⟨by kernel_rfl, ?_⟩) hHeld ?_
              rotate_left
              · (intro w' hSw; obtain ⟨hS0, hS1, hS2, hS3⟩ := hSw; go_simp; try with_reducible rfl)
              simp only [Act.put, List.setIfInBounds_toArray, List.set_cons_zero, List.set_cons_succ, List.getElem_toArray, List.getElem_cons_succ, List.getElem_cons_zero]
              refine wpAnyH_take (i := 15) (v := ?_) rfl (by kernel_rfl) (by kernel_rfl) (by kernel_rfl) (fun _ _ _ h => h) (Or.inl ⟨by kernel_rfl, ?_⟩) hHeld ?_
              rotate_left
              · (intro w' hSw; obtain ⟨hS0, hS1, hS2, hS3⟩ := hSw; go_simp; try with_reducible rfl)
              simp only [Act.put, List.setIfInBounds_toArray, List.set_cons_zero, List.set_cons_succ, List.getElem_toArray, List.getElem_cons_succ, List.getElem_cons_zero]
              refine wpAnyH_take (i := 16) (v := ?_) rfl (by kernel_rfl) (by kernel_rfl) (by kernel_rfl) (fun _ _ _ h => h) (Or.inl ⟨by kernel_rfl, ?_⟩) hHeld ?_
              rotate_left
              · (intro w' hSw; obtain ⟨hS0, hS1, hS2, hS3⟩ := hSw; go_simp; try with_reducible rfl)
              simp only [Act.put, List.setIfInBounds_toArray, List.set_cons_zero, List.set_cons_succ, List.getElem_toArray, List.getElem_cons_succ, List.getElem_cons_zero]
              refine wpAnyH_take (i := 17) (v := ?_) rfl (by kernel_rfl) (by kernel_rfl) (by kernel_rfl) (fun _ _ _ h => h) (Or.inl ⟨by kernel_rfl, ?_⟩) hHeld ?_
              rotate_left
              · (intro w' hSw; obtain ⟨hS0, hS1, hS2, hS3⟩ := hSw; go_simp; try with_reducible rfl)
              simp only [Act.put, List.setIfInBounds_toArray, List.set_cons_zero, List.set_cons_succ, List.getElem_toArray, List.getElem_cons_succ, List.getElem_cons_zero]
              refine wpAnyH_take (i := 18) (v := ?_) rfl (by kernel_rfl) (by kernel_rfl) (by kernel_rfl) (fun _ _ _ h => h) (Or.inl ⟨by kernel_rfl, ?_⟩) hHeld ?_
              rotate_left
              · (intro w' hSw; obtain ⟨hS0, hS1, hS2, hS3⟩ := hSw; go_simp; try with_reducible rfl)
              simp only [Act.put, List.setIfInBounds_toArray, List.set_cons_zero, List.set_cons_succ, List.getElem_toArray, List.getElem_cons_succ, List.getElem_cons_zero]
              refine wpAnyH_take (i := 19) (v := ?_) rfl (by kernel_rfl) (by kernel_rfl) (by kernel_rfl) (fun _ _ _ h => h) (Or.inl ⟨by kernel_rfl, ?_⟩) hHeld ?_
              rotate_left
              · (intro w' hSw; obtain ⟨hS0, hS1, hS2, hS3⟩ := hSw; go_simp; try with_reducible rfl)
              simp only [Act.put, List.setIfInBounds_toArray, List.set_cons_zero, List.set_cons_succ, List.getElem_toArray, List.getElem_cons_succ, List.getElem_cons_zero]
              refine wpAnyH_take (i := 20) (v := ?_) rfl (by kernel_rfl) (by kernel_rfl) (by kernel_rfl) (fun _ _ _ h => h) (Or.inl ⟨by kernel_rfl, ?_⟩) hHeld ?_
              rotate_left
              · (intro w' hSw; obtain ⟨hS0, hS1, hS2, hS3⟩ := hSw; go_simp; try with_reducible rfl)
              simp only [Act.put, List.setIfInBounds_toArray, List.set_cons_zero, List.set_cons_succ, List.getElem_toArray, List.getElem_cons_succ, List.getElem_cons_zero]
              refine wpAnyH_take (i := 21) (v := ?_) rfl (by kernel_rfl) (by kernel_rfl) (by kernel_rfl) (fun _ _ _ h => h) (Or.inl ⟨by kernel_rfl, ?_⟩) hHeld ?_
              rotate_left
              · (intro w' hSw; obtain ⟨hS0, hS1, hS2, hS3⟩ := hSw; go_simp; try with_reducible rfl)
              simp only [Act.put, List.setIfInBounds_toArray, List.set_cons_zero, List.set_cons_succ, List.getElem_toArray, List.getElem_cons_succ, List.getElem_cons_zero]
              refine wpAnyH_take (i := 22) (v := ?_) rfl (by kernel_rfl) (by kernel_rfl) (by kernel_rfl) (fun _ _ _ h => h) (Or.inl ⟨by kernel_rfl, ?_⟩) hHeld ?_
              rotate_left
              · (intro w' hSw; obtain ⟨hS0, hS1, hS2, hS3⟩ := hSw; go_simp; try with_reducible rfl)
              simp only [Act.put, List.setIfInBounds_toArray, List.set_cons_zero, List.set_cons_succ, List.getElem_toArray, List.getElem_cons_succ, List.getElem_cons_zero]
              refine wpAnyH_take (i := 23) (v := ?_) rfl (by kernel_rfl) (by kernel_rfl) (by kernel_rfl) (fun _ _ _ h => h) (Or.inl ⟨by kernel_rfl, ?_⟩) hHeld ?_
              rotate_left
              · (intro w' hSw; obtain ⟨hS0, hS1, hS2, hS3⟩ := hSw; go_simp; try with_reducible rfl)
              simp only [Act.put, List.setIfInBounds_toArray, List.set_cons_zero, List.set_cons_succ, List.getElem_toArray, List.getElem_cons_succ, List.getElem_cons_zero]
              refine wpAnyH_take (i := 24) (v := ?_) rfl (by kernel_rfl) (by kernel_rfl) (by kernel_rfl) (fun _ _ _ h => h) (Or.inl ⟨by kernel_rfl, ?_⟩) hHeld ?_
              rotate_left
              · (intro w' hSw; obtain ⟨hS0, hS1, hS2, hS3⟩ := hSw; go_simp; try with_reducible rfl)
              simp only [Act.put, List.setIfInBounds_toArray, List.set_cons_zero, List.set_cons_succ, List.getElem_toArray, List.getElem_cons_succ, List.getElem_cons_zero]
              refine wpAnyH_take (i := 25) (v := ?_) rfl (by kernel_rfl) (by kernel_rfl) (by kernel_rfl) (fun _ _ _ h => h) (Or.inl ⟨by kernel_rfl, ?_⟩) hHeld ?_
              rotate_left
              · (intro w' hSw; obtain ⟨hS0, hS1, hS2, hS3⟩ := hSw; go_simp; try with_reducible rfl)
              simp only [Act.put, List.setIfInBounds_toArray, List.set_cons_zero, List.set_cons_succ, List.getElem_toArray, List.getElem_cons_succ, List.getElem_cons_zero]
              refine wpAnyH_take (i := 26) (v := ?_) rfl (by kernel_rfl) (by kernel_rfl) (by kernel_rfl) (fun _ _ _ h => h) (Or.inl ⟨by kernel_rfl, ?_⟩) hHeld ?_
              rotate_left
              · (intro w' hSw; obtain ⟨hS0, hS1, hS2, hS3⟩ := hSw; go_simp; try with_reducible rfl)
              simp only [Act.put, List.setIfInBounds_toArray, List.set_cons_zero, List.set_cons_succ, List.getElem_toArray, List.getElem_cons_succ, List.getElem_cons_zero]
              refine wpAnyH_take (i := 27) (v := ?_) rfl (by kernel_rfl) (by kernel_rfl) (by kernel_rfl) (fun _ _ _ h => h) (Or.inl ⟨by kernel_rfl, ?_⟩) hHeld ?_
              rotate_left
              · (intro w' hSw; obtain ⟨hS0, hS1, hS2, hS3⟩ := hSw; go_simp; try with_reducible rfl)
              simp only [Act.put, List.setIfInBounds_toArray, List.set_cons_zero, List.set_cons_succ, List.getElem_toArray, List.getElem_cons_succ, List.getElem_cons_zero]
              refine wpAnyH_take (i := 28) (v := ?_) rfl (by kernel_rfl) (by kernel_rfl) (by kernel_rfl) (fun _ _ _ h => h) (Or.inl ⟨by kernel_rfl, ?_⟩) hHeld ?_
              rotate_left
              · (intro w' hSw; obtain ⟨hS0, hS1, hS2, hS3⟩ := hSw; go_simp; try with_reducible rfl)
              simp only [Act.put, List.setIfInBounds_toArray, List.set_cons_zero, List.set_cons_succ, List.getElem_toArray, List.getElem_cons_succ, List.getElem_cons_zero]
              refine wpAnyH_done (by kernel_rfl) ?_ _
              go_wp2_with fail
              exact HF.out _ HJ.out.1 HJ.out.2.1 HJ.out.2.2.1 HJ.out.2.2.2
        · obtain rfl : j = n := by omega
          have hxx := HK.out.2.2.1.xx
          rw [HH.out.2.2.2.2.2.1] at hxx
          have hlB : KB.length = j + 1 := by rw [HK.out.2.2.1.lb, HH.out.2.2.2.2.2.1]
          have hlA : KA.length = j := by rw [HK.out.2.2.1.la]; exact HH.out.2.2.2.2.2.1
          have cb : wr.cell? ⟨bb, j, none⟩ = some (.bool true) := by rw [cell_row wr bb j _ _ hkb, bools_get KB j (by rw [hlB]; omega), hxx]
          cases hALe : AL
          · go_wp2_with fail
            go_ret
            exact ⟨_, rfl, rfl, hbd⟩
          · obtain ⟨z, hz⟩ := HK.out.2.2.1.al (by rw [HK.out.2.2.2, hALe])
            have hra : Rd wr 1 (some ⟨ba, 0, none⟩) j (bools KA) := by have := rd_pre (K := KA) (K2 := []) (by rw [List.append_nil]; exact hka); rw [hlA] at this; exact this
            have hrb : Rd wr 1 (some ⟨bb, 0, none⟩) j (bools KA) := by rw [hz] at hkb; have := rd_pre (K := KA) hkb; rw [hlA] at this; exact this
            have hsm := fun c1 c2 => same_yes (some ⟨ba, 0, none⟩) (some ⟨bb, 0, none⟩) j c1 c2 KA wr (by omega) hlA hra hrb
            have HS := Lib.hid (And.intro hsm hbd); clear hsm hbd hra hrb hz hka hkb hlA hlB hxx
            go_wp2_with fail
            refine (HS.out.1 _ _).mono ?_
            rintro e w9 ⟨v, rfl, rfl, hb9⟩
            have hbd9 := HS.out.2.trans (hb9.mono HS.out.2.size)
            clear hb9
            go_wp2_with fail
            go_ret
            exact ⟨_, rfl, rfl, hbd9⟩
    · simp only [List.setIfInBounds_toArray, List.set_cons_zero, List.set_cons_succ] at hrest
      refine wpAnyH_ready (rs := [5, 7, 12]) (by kernel_rfl) (by simp) (AllReadyH.cons rfl (fun K hK => ?_) (AllReadyH.cons rfl (fun K hK => ?_) (AllReadyH.cons rfl (fun K hK => ?_) AllReadyH.nil)))
      · go_simp
        refine (HK.out.1 _ ⟨_, _, rfl, hr1⟩).mono ?_
        rintro e U1 ⟨v, rfl, ⟨ba, rfl, -, hka⟩, hbb⟩
        have hx := hHeld.below hbb
        replace hbd := hbd.trans (hbb.mono hbd.size)
        replace hBW := Nat.le_trans hBW hbb.size
        replace hr1 := hr1.below hbb
        clear hHeld hbb
        refine hK.out _ _ (by exact hx) (fun hHeld => ?_)
        clear hK K
        (try simp only [Act.put, List.setIfInBounds_toArray, List.set_cons_zero, List.set_cons_succ, List.getElem_toArray, List.getElem_cons_succ, List.getElem_cons_zero])
        clear hx
        refine wpAnyH_ready (rs := [7, 12]) (by kernel_rfl) (by simp) (AllReadyH.cons rfl (fun K hK => ?_) (AllReadyH.cons rfl (fun K hK => ?_) AllReadyH.nil))
        · go_simp
          have hown7 : (U1.alloc (.cells #[] 39)).ownsRow B0 39 5 (.slice (some ⟨U1.heap.size, 0, none⟩) 0 0) 0 [] := own_weak (own_zero U1 _) hBW
          have hbb : Below U1.heap.size U1 (U1.alloc (.cells #[] 39)) := (Below.refl _ _).alloc (Nat.le_refl _) _
          have hg7 : U1.heap.size < (U1.alloc (.cells #[] 39)).heap.size := by simp
          have hx := hHeld.below hbb
          replace hbd := hbd.trans (hbb.mono hbd.size)
          replace hBW := Nat.le_trans hBW hbb.size
          replace hr1 := hr1.below hbb
          replace hka := (hbb.block _ (blk_lt hka)).trans hka
          clear hHeld hbb
          generalize hg : U1.heap.size = g7 at hown7 hg7 ⊢
          generalize U1.alloc (.cells #[] 39) = U2 at hx hbd hBW hr1 hown7 hg7 hka ⊢
          clear hg
          refine hK.out _ _ (by exact hx) (fun hHeld => ?_)
          clear hK K
          (try simp only [Act.put, List.setIfInBounds_toArray, List.set_cons_zero, List.set_cons_succ, List.getElem_toArray, List.getElem_cons_succ, List.getElem_cons_zero])
          clear hx
          refine wpAnyH_ready (rs := [10, 12]) (by kernel_rfl) (by simp) (AllReadyH.cons rfl (fun K hK => ?_) (AllReadyH.cons rfl (fun K hK => ?_) AllReadyH.nil))
          · refine step_push_g rfl (.tmp 75) (.tmp 77) 32 rfl B0 39 (.agg #[.string ⟨#[]⟩, .int .i64 0, .int .i64 0, .string ⟨#[]⟩, .int .i64 0]) 5 56 Tryz.underlying32 info_ref (by decide) (by decide) _ _ 0 [] A n c (rfCs l) rfl hown7 rfl hr1 HH.out.2.2.2.2.2.2.2.2 (rfCs_one l) (by omega) (by omega) hBW ?_
            intro v10 U3 hown10 hbb hfr
            rw [Nat.zero_add, List.nil_append] at hown10
            have hx := hHeld.keep hbb (by omega) (by omega) (by omega)
            replace hBW := Nat.le_trans hBW hbb.size
            replace hbd := hbd.trans (hbb.mono hw0)
            have hka2 := (hfr ba (blk_lt hka) (own_type hown7 hka (by decide))).trans hka
            clear hHeld hbb hfr hown7 hg7 hka
            have hka := hka2
            clear hka2
            clear hr1
            refine hK.out _ _ (by exact hx) (fun hHeld => ?_)
            clear hK K
            (try simp only [Act.put, List.setIfInBounds_toArray, List.set_cons_zero, List.set_cons_succ, List.getElem_toArray, List.getElem_cons_succ, List.getElem_cons_zero])
            clear hx
            refine wpAnyH_ready (rs := [12]) (by kernel_rfl) (by simp) (AllReadyH.cons rfl (fun K hK => ?_) AllReadyH.nil)
            go_simp
            have hx12 : (U3.alloc (.cells (rfC ⟨xm, xn, xt, xnm, xtil⟩).toArray 39)).heap[U3.heap.size]? = some (.cells (rfC ⟨xm, xn, xt, xnm, xtil⟩).toArray 39 (0, 0)) := heap_alloc_new U3 _
            have hbb : Below U3.heap.size U3 (U3.alloc (.cells (rfC ⟨xm, xn, xt, xnm, xtil⟩).toArray 39)) := (Below.refl _ _).alloc (Nat.le_refl _) _
            have hx := hHeld.below hbb
            replace hbd := hbd.trans (hbb.mono hbd.size)
            replace hBW := Nat.le_trans hBW hbb.size
            replace hka := (hbb.block _ (blk_lt hka)).trans hka
            replace hown10 := own_below hown10 hbb
            clear hHeld hbb
            generalize hg : U3.heap.size = g12 at hx12 ⊢
            change K _ (U3.alloc (.cells (rfC ⟨xm, xn, xt, xnm, xtil⟩).toArray 39))
            generalize U3.alloc (.cells (rfC ⟨xm, xn, xt, xnm, xtil⟩).toArray 39) = U4 at hx hbd hBW hx12 hka hown10 ⊢
            clear hg
            refine hK.out _ _ (by exact hx) (fun hHeld => ?_)
            clear hK K
            (try simp only [Act.put, List.setIfInBounds_toArray, List.set_cons_zero, List.set_cons_succ, List.getElem_toArray, List.getElem_cons_succ, List.getElem_cons_zero])
            clear hx
            refine wpAnyH_ready (rs := [13]) (by kernel_rfl) (by simp) (AllReadyH.cons rfl (fun K hK => ?_) AllReadyH.nil)
            refine step_push_g rfl (.tmp 78) (.tmp 80) 32 rfl B0 39 (.agg #[.string ⟨#[]⟩, .int .i64 0, .int .i64 0, .string ⟨#[]⟩, .int .i64 0]) 5 56 Tryz.underlying32 info_ref (by decide) (by decide) _ _ n (rfCs l) (some ⟨g12, 0, none⟩) 1 1 (rfC ⟨xm, xn, xt, xnm, xtil⟩) rfl hown10 rfl ⟨rfl, fun _ => ⟨g12, 0, rfl, blk_lt hx12, fun j hj => by rw [Nat.zero_add, cell_row _ g12 j _ _ hx12]; simp⟩⟩ (fun h => by cases h) (rfC_one _) (by omega) (by omega) hBW ?_
            intro v13 U5 hown13 hbb hfr
            rw [← rfCs_snoc] at hown13
            have hx := hHeld.keep hbb (by omega) (by omega) (by omega)
            replace hBW := Nat.le_trans hBW hbb.size
            replace hbd := hbd.trans (hbb.mono hw0)
            have hka2 := (hfr ba (blk_lt hka) (own_type hown10 hka (by decide))).trans hka
            clear hHeld hbb hfr hown10 hx12 hka
            have hka := hka2
            clear hka2
            obtain ⟨A13, c13, rfl⟩ := own_form' hown13
            refine hK.out _ _ (by exact hx) (fun hHeld => ?_)
            clear hK K
            (try simp only [Act.put, List.setIfInBounds_toArray, List.set_cons_zero, List.set_cons_succ, List.getElem_toArray, List.getElem_cons_succ, List.getElem_cons_zero])
            clear hx
            refine wpAnyH_ready (rs := [16]) (by kernel_rfl) (by simp) (AllReadyH.cons rfl (fun K hK => ?_) AllReadyH.nil)
            go_simp
            refine (HK.out.2.1 _ _ (own_rd hown13)).mono ?_
            rintro e U6 ⟨v, rfl, ⟨bb, rfl, -, hkb⟩, hbb⟩
            have hx := hHeld.below hbb
            replace hbd := hbd.trans (hbb.mono hbd.size)
            replace hka := (hbb.block _ (blk_lt hka)).trans hka
            clear hHeld hbb hown13
            refine hK.out _ _ (by exact hx) (fun hHeld => ?_)
            clear hK K
            (try simp only [Act.put, List.setIfInBounds_toArray, List.set_cons_zero, List.set_cons_succ, List.getElem_toArray, List.getElem_cons_succ, List.getElem_cons_zero])
            clear hx
            refine wpAnyH_take (i := 17) (v := ?_) rfl (by kernel_rfl) (by kernel_rfl) (by kernel_rfl) (fun _ _ _ h => h) (Or.inl ⟨by kernel_rfl, ?_⟩) hHeld ?_
            rotate_left
            · (intro w' hSw; (try dsimp only at hSw); go_simp; try with_reducible rfl)
            simp only [Act.put, List.setIfInBounds_toArray, List.set_cons_zero, List.set_cons_succ, List.getElem_toArray, List.getElem_cons_succ, List.getElem_cons_zero]
            refine wpAnyH_take (i := 18) (v := ?_) rfl (by kernel_rfl) (by kernel_rfl) (by kernel_rfl) (fun _ _ _ h => h) (Or.inl ⟨by kernel_rfl, ?_⟩) hHeld ?_
            rotate_left
            · (intro w' hSw; (try dsimp only at hSw); go_simp; try with_reducible rfl)
            simp only [Act.put, List.setIfInBounds_toArray, List.set_cons_zero, List.set_cons_succ, List.getElem_toArray, List.getElem_cons_succ, List.getElem_cons_zero]
            refine wpAnyH_done (by kernel_rfl) ?_ _
            exact hrest _ _ _ _ _ _ _ ⟨ba, bb, rfl, rfl, hka, hkb, hHeld, hbd⟩
          · go_simp
            have hx12 : (U2.alloc (.cells (rfC ⟨xm, xn, xt, xnm, xtil⟩).toArray 39)).heap[U2.heap.size]? = some (.cells (rfC ⟨xm, xn, xt, xnm, xtil⟩).toArray 39 (0, 0)) := heap_alloc_new U2 _
            have hbb : Below U2.heap.size U2 (U2.alloc (.cells (rfC ⟨xm, xn, xt, xnm, xtil⟩).toArray 39)) := (Below.refl _ _).alloc (Nat.le_refl _) _
            have hne : U2.heap.size ≠ g7 := Nat.ne_of_gt hg7
            have hx := hHeld.below hbb
            replace hbd := hbd.trans (hbb.mono hbd.size)
            replace hBW := Nat.le_trans hBW hbb.size
            replace hr1 := hr1.below hbb
            replace hka := (hbb.block _ (blk_lt hka)).trans hka
            replace hown7 := own_below hown7 hbb
            replace hg7 := Nat.lt_of_lt_of_le hg7 hbb.size
            clear hHeld hbb
            generalize hg : U2.heap.size = g12 at hx12 hne ⊢
            change K _ (U2.alloc (.cells (rfC ⟨xm, xn, xt, xnm, xtil⟩).toArray 39))
            generalize U2.alloc (.cells (rfC ⟨xm, xn, xt, xnm, xtil⟩).toArray 39) = U7 at hx hbd hBW hr1 hx12 hka hown7 hg7 ⊢
            clear hg
            refine hK.out _ _ (by exact hx) (fun hHeld => ?_)
            clear hK K
            (try simp only [Act.put, List.setIfInBounds_toArray, List.set_cons_zero, List.set_cons_succ, List.getElem_toArray, List.getElem_cons_succ, List.getElem_cons_zero])
            clear hx
            refine wpAnyH_ready (rs := [10]) (by kernel_rfl) (by simp) (AllReadyH.cons rfl (fun K hK => ?_) AllReadyH.nil)
            refine step_push_g rfl (.tmp 75) (.tmp 77) 32 rfl B0 39 (.agg #[.string ⟨#[]⟩, .int .i64 0, .int .i64 0, .string ⟨#[]⟩, .int .i64 0]) 5 56 Tryz.underlying32 info_ref (by decide) (by decide) _ _ 0 [] A n c (rfCs l) rfl hown7 rfl hr1 HH.out.2.2.2.2.2.2.2.2 (rfCs_one l) (by omega) (by omega) hBW ?_
            intro v10 U8 hown10 hbb hfr
            rw [Nat.zero_add, List.nil_append] at hown10
            have hx := hHeld.keep hbb (by omega) (by omega) (by omega)
            replace hBW := Nat.le_trans hBW hbb.size
            replace hbd := hbd.trans (hbb.mono hw0)
            have hka2 := (hfr ba (blk_lt hka) (own_type hown7 hka (by decide))).trans hka
            have hx12b := (hfr g12 (blk_lt hx12) (fun eq => hne (Option.some.inj (show some g12 = some g7 from eq.symm)))).trans hx12
            clear hHeld hbb hfr hown7 hg7 hka hx12 hne
            have hka := hka2
            clear hka2
            have hx12 := hx12b
            clear hx12b
            clear hr1
            refine hK.out _ _ (by exact hx) (fun hHeld => ?_)
            clear hK K
            (try simp only [Act.put, List.setIfInBounds_toArray, List.set_cons_zero, List.set_cons_succ, List.getElem_toArray, List.getElem_cons_succ, List.getElem_cons_zero])
            clear hx
            refine wpAnyH_ready (rs := [13]) (by kernel_rfl) (by simp) (AllReadyH.cons rfl (fun K hK => ?_) AllReadyH.nil)
            refine step_push_g rfl (.tmp 78) (.tmp 80) 32 rfl B0 39 (.agg #[.string ⟨#[]⟩, .int .i64 0, .int .i64 0, .string ⟨#[]⟩, .int .i64 0]) 5 56 Tryz.underlying32 info_ref (by decide) (by decide) _ _ n (rfCs l) (some ⟨g12, 0, none⟩) 1 1 (rfC ⟨xm, xn, xt, xnm, xtil⟩) rfl hown10 rfl ⟨rfl, fun _ => ⟨g12, 0, rfl, blk_lt hx12, fun j hj => by rw [Nat.zero_add, cell_row _ g12 j _ _ hx12]; simp⟩⟩ (fun h => by cases h) (rfC_one _) (by omega) (by omega) hBW ?_
            intro v13 U9 hown13 hbb hfr
            rw [← rfCs_snoc] at hown13
            have hx := hHeld.keep hbb (by omega) (by omega) (by omega)
            replace hBW := Nat.le_trans hBW hbb.size
            replace hbd := hbd.trans (hbb.mono hw0)
            have hka2 := (hfr ba (blk_lt hka) (own_type hown10 hka (by decide))).trans hka
            clear hHeld hbb hfr hown10 hx12 hka
            have hka := hka2
            clear hka2
            obtain ⟨A13, c13, rfl⟩ := own_form' hown13
            refine hK.out _ _ (by exact hx) (fun hHeld => ?_)
            clear hK K
            (try simp only [Act.put, List.setIfInBounds_toArray, List.set_cons_zero, List.set_cons_succ, List.getElem_toArray, List.getElem_cons_succ, List.getElem_cons_zero])
            clear hx
            refine wpAnyH_ready (rs := [16]) (by kernel_rfl) (by simp) (AllReadyH.cons rfl (fun K hK => ?_) AllReadyH.nil)
            go_simp
            refine (HK.out.2.1 _ _ (own_rd hown13)).mono ?_
            rintro e U10 ⟨v, rfl, ⟨bb, rfl, -, hkb⟩, hbb⟩
            have hx := hHeld.below hbb
            replace hbd := hbd.trans (hbb.mono hbd.size)
            replace hka := (hbb.block _ (blk_lt hka)).trans hka
            clear hHeld hbb hown13
            refine hK.out _ _ (by exact hx) (fun hHeld => ?_)
            clear hK K
            (try simp only [Act.put, List.setIfInBounds_toArray, List.set_cons_zero, List.set_cons_succ, List.getElem_toArray, List.getElem_cons_succ, List.getElem_cons_zero])
            clear hx
            refine wpAnyH_take (i := 17) (v := ?_) rfl (by kernel_rfl) (by kernel_rfl) (by kernel_rfl) (fun _ _ _ h => h) (Or.inl ⟨by kernel_rfl, ?_⟩) hHeld ?_
            rotate_left
            · (intro w' hSw; (try dsimp only at hSw); go_simp; try with_reducible rfl)
            simp only [Act.put, List.setIfInBounds_toArray, List.set_cons_zero, List.set_cons_succ, List.getElem_toArray, List.getElem_cons_succ, List.getElem_cons_zero]
            refine wpAnyH_take (i := 18) (v := ?_) rfl (by kernel_rfl) (by kernel_rfl) (by kernel_rfl) (fun _ _ _ h => h) (Or.inl ⟨by kernel_rfl, ?_⟩) hHeld ?_
            rotate_left
            · (intro w' hSw; (try dsimp only at hSw); go_simp; try with_reducible rfl)
            simp only [Act.put, List.setIfInBounds_toArray, List.set_cons_zero, List.set_cons_succ, List.getElem_toArray, List.getElem_cons_succ, List.getElem_cons_zero]
            refine wpAnyH_done (by kernel_rfl) ?_ _
            exact hrest _ _ _ _ _ _ _ ⟨ba, bb, rfl, rfl, hka, hkb, hHeld, hbd⟩
        · go_simp
          have hx12 : (U1.alloc (.cells (rfC ⟨xm, xn, xt, xnm, xtil⟩).toArray 39)).heap[U1.heap.size]? = some (.cells (rfC ⟨xm, xn, xt, xnm, xtil⟩).toArray 39 (0, 0)) := heap_alloc_new U1 _
          have hbb : Below U1.heap.size U1 (U1.alloc (.cells (rfC ⟨xm, xn, xt, xnm, xtil⟩).toArray 39)) := (Below.refl _ _).alloc (Nat.le_refl _) _
          have hx := hHeld.below hbb
          replace hbd := hbd.trans (hbb.mono hbd.size)
          replace hBW := Nat.le_trans hBW hbb.size
          replace hr1 := hr1.below hbb
          replace hka := (hbb.block _ (blk_lt hka)).trans hka
          clear hHeld hbb
          generalize hg : U1.heap.size = g12 at hx12 ⊢
          change K _ (U1.alloc (.cells (rfC ⟨xm, xn, xt, xnm, xtil⟩).toArray 39))
          generalize U1.alloc (.cells (rfC ⟨xm, xn, xt, xnm, xtil⟩).toArray 39) = U11 at hx hbd hBW hr1 hx12 hka ⊢
          clear hg
          refine hK.out _ _ (by exact hx) (fun hHeld => ?_)
          clear hK K
          (try simp only [Act.put, List.setIfInBounds_toArray, List.set_cons_zero, List.set_cons_succ, List.getElem_toArray, List.getElem_cons_succ, List.getElem_cons_zero])
          clear hx
          refine wpAnyH_ready (rs := [7]) (by kernel_rfl) (by simp) (AllReadyH.cons rfl (fun K hK => ?_) AllReadyH.nil)
          go_simp
          have hown7 : (U11.alloc (.cells #[] 39)).ownsRow B0 39 5 (.slice (some ⟨U11.heap.size, 0, none⟩) 0 0) 0 [] := own_weak (own_zero U11 _) hBW
          have hbb : Below U11.heap.size U11 (U11.alloc (.cells #[] 39)) := (Below.refl _ _).alloc (Nat.le_refl _) _
          have hg7 : U11.heap.size < (U11.alloc (.cells #[] 39)).heap.size := by simp
          have hne : g12 ≠ U11.heap.size := Nat.ne_of_lt (blk_lt hx12)
          have hx := hHeld.below hbb
          replace hbd := hbd.trans (hbb.mono hbd.size)
          replace hBW := Nat.le_trans hBW hbb.size
          replace hr1 := hr1.below hbb
          replace hka := (hbb.block _ (blk_lt hka)).trans hka
          replace hx12 := (hbb.block _ (blk_lt hx12)).trans hx12
          clear hHeld hbb
          generalize hg : U11.heap.size = g7 at hown7 hg7 hne ⊢
          generalize U11.alloc (.cells #[] 39) = U12 at hx hbd hBW hr1 hown7 hg7 hka hx12 ⊢
          clear hg
          refine hK.out _ _ (by exact hx) (fun hHeld => ?_)
          clear hK K
          (try simp only [Act.put, List.setIfInBounds_toArray, List.set_cons_zero, List.set_cons_succ, List.getElem_toArray, List.getElem_cons_succ, List.getElem_cons_zero])
          clear hx
          refine wpAnyH_ready (rs := [10]) (by kernel_rfl) (by simp) (AllReadyH.cons rfl (fun K hK => ?_) AllReadyH.nil)
          refine step_push_g rfl (.tmp 75) (.tmp 77) 32 rfl B0 39 (.agg #[.string ⟨#[]⟩, .int .i64 0, .int .i64 0, .string ⟨#[]⟩, .int .i64 0]) 5 56 Tryz.underlying32 info_ref (by decide) (by decide) _ _ 0 [] A n c (rfCs l) rfl hown7 rfl hr1 HH.out.2.2.2.2.2.2.2.2 (rfCs_one l) (by omega) (by omega) hBW ?_
          intro v10 U13 hown10 hbb hfr
          rw [Nat.zero_add, List.nil_append] at hown10
          have hx := hHeld.keep hbb (by omega) (by omega) (by omega)
          replace hBW := Nat.le_trans hBW hbb.size
          replace hbd := hbd.trans (hbb.mono hw0)
          have hka2 := (hfr ba (blk_lt hka) (own_type hown7 hka (by decide))).trans hka
          have hx12b := (hfr g12 (blk_lt hx12) (fun eq => hne (Option.some.inj (show some g12 = some g7 from eq.symm)))).trans hx12
          clear hHeld hbb hfr hown7 hg7 hka hx12 hne
          have hka := hka2
          clear hka2
          have hx12 := hx12b
          clear hx12b
          clear hr1
          refine hK.out _ _ (by exact hx) (fun hHeld => ?_)
          clear hK K
          (try simp only [Act.put, List.setIfInBounds_toArray, List.set_cons_zero, List.set_cons_succ, List.getElem_toArray, List.getElem_cons_succ, List.getElem_cons_zero])
          clear hx
          refine wpAnyH_ready (rs := [13]) (by kernel_rfl) (by simp) (AllReadyH.cons rfl (fun K hK => ?_) AllReadyH.nil)
          refine step_push_g rfl (.tmp 78) (.tmp 80) 32 rfl B0 39 (.agg #[.string ⟨#[]⟩, .int .i64 0, .int .i64 0, .string ⟨#[]⟩, .int .i64 0]) 5 56 Tryz.underlying32 info_ref (by decide) (by decide) _ _ n (rfCs l) (some ⟨g12, 0, none⟩) 1 1 (rfC ⟨xm, xn, xt, xnm, xtil⟩) rfl hown10 rfl ⟨rfl, fun _ => ⟨g12, 0, rfl, blk_lt hx12, fun j hj => by rw [Nat.zero_add, cell_row _ g12 j _ _ hx12]; simp⟩⟩ (fun h => by cases h) (rfC_one _) (by omega) (by omega) hBW ?_
          intro v13 U14 hown13 hbb hfr
          rw [← rfCs_snoc] at hown13
          have hx := hHeld.keep hbb (by omega) (by omega) (by omega)
          replace hBW := Nat.le_trans hBW hbb.size
          replace hbd := hbd.trans (hbb.mono hw0)
          have hka2 := (hfr ba (blk_lt hka) (own_type hown10 hka (by decide))).trans hka
          clear hHeld hbb hfr hown10 hx12 hka
          have hka := hka2
          clear hka2
          obtain ⟨A13, c13, rfl⟩ := own_form' hown13
          refine hK.out _ _ (by exact hx) (fun hHeld => ?_)
          clear hK K
          (try simp only [Act.put, List.setIfInBounds_toArray, List.set_cons_zero, List.set_cons_succ, List.getElem_toArray, List.getElem_cons_succ, List.getElem_cons_zero])
          clear hx
          refine wpAnyH_ready (rs := [16]) (by kernel_rfl) (by simp) (AllReadyH.cons rfl (fun K hK => ?_) AllReadyH.nil)
          go_simp
          refine (HK.out.2.1 _ _ (own_rd hown13)).mono ?_
          rintro e U15 ⟨v, rfl, ⟨bb, rfl, -, hkb⟩, hbb⟩
          have hx := hHeld.below hbb
          replace hbd := hbd.trans (hbb.mono hbd.size)
          replace hka := (hbb.block _ (blk_lt hka)).trans hka
          clear hHeld hbb hown13
          refine hK.out _ _ (by exact hx) (fun hHeld => ?_)
          clear hK K
          (try simp only [Act.put, List.setIfInBounds_toArray, List.set_cons_zero, List.set_cons_succ, List.getElem_toArray, List.getElem_cons_succ, List.getElem_cons_zero])
          clear hx
          refine wpAnyH_take (i := 17) (v := ?_) rfl (by kernel_rfl) (by kernel_rfl) (by kernel_rfl) (fun _ _ _ h => h) (Or.inl ⟨by kernel_rfl, ?_⟩) hHeld ?_
          rotate_left
          · (intro w' hSw; (try dsimp only at hSw); go_simp; try with_reducible rfl)
          simp only [Act.put, List.setIfInBounds_toArray, List.set_cons_zero, List.set_cons_succ, List.getElem_toArray, List.getElem_cons_succ, List.getElem_cons_zero]
          refine wpAnyH_take (i := 18) (v := ?_) rfl (by kernel_rfl) (by kernel_rfl) (by kernel_rfl) (fun _ _ _ h => h) (Or.inl ⟨by kernel_rfl, ?_⟩) hHeld ?_
          rotate_left
          · (intro w' hSw; (try dsimp only at hSw); go_simp; try with_reducible rfl)
          simp only [Act.put, List.setIfInBounds_toArray, List.set_cons_zero, List.set_cons_succ, List.getElem_toArray, List.getElem_cons_succ, List.getElem_cons_zero]
          refine wpAnyH_done (by kernel_rfl) ?_ _
          exact hrest _ _ _ _ _ _ _ ⟨ba, bb, rfl, rfl, hka, hkb, hHeld, hbd⟩
      · go_simp
        have hown7 : (W1.alloc (.cells #[] 39)).ownsRow B0 39 5 (.slice (some ⟨W1.heap.size, 0, none⟩) 0 0) 0 [] := own_weak (own_zero W1 _) hBW
        have hbb : Below W1.heap.size W1 (W1.alloc (.cells #[] 39)) := (Below.refl _ _).alloc (Nat.le_refl _) _
        have hg7 : W1.heap.size < (W1.alloc (.cells #[] 39)).heap.size := by simp
        have hx := hHeld.below hbb
        replace hbd := hbd.trans (hbb.mono hbd.size)
        replace hBW := Nat.le_trans hBW hbb.size
        replace hr1 := hr1.below hbb
        clear hHeld hbb
        generalize hg : W1.heap.size = g7 at hown7 hg7 ⊢
        generalize W1.alloc (.cells #[] 39) = U16 at hx hbd hBW hr1 hown7 hg7 ⊢
        clear hg
        refine hK.out _ _ (by exact hx) (fun hHeld => ?_)
        clear hK K
        (try simp only [Act.put, List.setIfInBounds_toArray, List.set_cons_zero, List.set_cons_succ, List.getElem_toArray, List.getElem_cons_succ, List.getElem_cons_zero])
        clear hx
        refine wpAnyH_ready (rs := [5, 12]) (by kernel_rfl) (by simp) (AllReadyH.cons rfl (fun K hK => ?_) (AllReadyH.cons rfl (fun K hK => ?_) AllReadyH.nil))
        · go_simp
          refine (HK.out.1 _ ⟨_, _, rfl, hr1⟩).mono ?_
          rintro e U17 ⟨v, rfl, ⟨ba, rfl, -, hka⟩, hbb⟩
          have hx := hHeld.below hbb
          replace hbd := hbd.trans (hbb.mono hbd.size)
          replace hBW := Nat.le_trans hBW hbb.size
          replace hr1 := hr1.below hbb
          replace hown7 := own_below hown7 hbb
          replace hg7 := Nat.lt_of_lt_of_le hg7 hbb.size
          clear hHeld hbb
          refine hK.out _ _ (by exact hx) (fun hHeld => ?_)
          clear hK K
          (try simp only [Act.put, List.setIfInBounds_toArray, List.set_cons_zero, List.set_cons_succ, List.getElem_toArray, List.getElem_cons_succ, List.getElem_cons_zero])
          clear hx
          refine wpAnyH_ready (rs := [10, 12]) (by kernel_rfl) (by simp) (AllReadyH.cons rfl (fun K hK => ?_) (AllReadyH.cons rfl (fun K hK => ?_) AllReadyH.nil))
          · refine step_push_g rfl (.tmp 75) (.tmp 77) 32 rfl B0 39 (.agg #[.string ⟨#[]⟩, .int .i64 0, .int .i64 0, .string ⟨#[]⟩, .int .i64 0]) 5 56 Tryz.underlying32 info_ref (by decide) (by decide) _ _ 0 [] A n c (rfCs l) rfl hown7 rfl hr1 HH.out.2.2.2.2.2.2.2.2 (rfCs_one l) (by omega) (by omega) hBW ?_
            intro v10 U18 hown10 hbb hfr
            rw [Nat.zero_add, List.nil_append] at hown10
            have hx := hHeld.keep hbb (by omega) (by omega) (by omega)
            replace hBW := Nat.le_trans hBW hbb.size
            replace hbd := hbd.trans (hbb.mono hw0)
            have hka2 := (hfr ba (blk_lt hka) (own_type hown7 hka (by decide))).trans hka
            clear hHeld hbb hfr hown7 hg7 hka
            have hka := hka2
            clear hka2
            clear hr1
            refine hK.out _ _ (by exact hx) (fun hHeld => ?_)
            clear hK K
            (try simp only [Act.put, List.setIfInBounds_toArray, List.set_cons_zero, List.set_cons_succ, List.getElem_toArray, List.getElem_cons_succ, List.getElem_cons_zero])
            clear hx
            refine wpAnyH_ready (rs := [12]) (by kernel_rfl) (by simp) (AllReadyH.cons rfl (fun K hK => ?_) AllReadyH.nil)
            go_simp
            have hx12 : (U18.alloc (.cells (rfC ⟨xm, xn, xt, xnm, xtil⟩).toArray 39)).heap[U18.heap.size]? = some (.cells (rfC ⟨xm, xn, xt, xnm, xtil⟩).toArray 39 (0, 0)) := heap_alloc_new U18 _
            have hbb : Below U18.heap.size U18 (U18.alloc (.cells (rfC ⟨xm, xn, xt, xnm, xtil⟩).toArray 39)) := (Below.refl _ _).alloc (Nat.le_refl _) _
            have hx := hHeld.below hbb
            replace hbd := hbd.trans (hbb.mono hbd.size)
            replace hBW := Nat.le_trans hBW hbb.size
            replace hka := (hbb.block _ (blk_lt hka)).trans hka
            replace hown10 := own_below hown10 hbb
            clear hHeld hbb
            generalize hg : U18.heap.size = g12 at hx12 ⊢
            change K _ (U18.alloc (.cells (rfC ⟨xm, xn, xt, xnm, xtil⟩).toArray 39))
            generalize U18.alloc (.cells (rfC ⟨xm, xn, xt, xnm, xtil⟩).toArray 39) = U19 at hx hbd hBW hx12 hka hown10 ⊢
            clear hg
            refine hK.out _ _ (by exact hx) (fun hHeld => ?_)
            clear hK K
            (try simp only [Act.put, List.setIfInBounds_toArray, List.set_cons_zero, List.set_cons_succ, List.getElem_toArray, List.getElem_cons_succ, List.getElem_cons_zero])
            clear hx
            refine wpAnyH_ready (rs := [13]) (by kernel_rfl) (by simp) (AllReadyH.cons rfl (fun K hK => ?_) AllReadyH.nil)
            refine step_push_g rfl (.tmp 78) (.tmp 80) 32 rfl B0 39 (.agg #[.string ⟨#[]⟩, .int .i64 0, .int .i64 0, .string ⟨#[]⟩, .int .i64 0]) 5 56 Tryz.underlying32 info_ref (by decide) (by decide) _ _ n (rfCs l) (some ⟨g12, 0, none⟩) 1 1 (rfC ⟨xm, xn, xt, xnm, xtil⟩) rfl hown10 rfl ⟨rfl, fun _ => ⟨g12, 0, rfl, blk_lt hx12, fun j hj => by rw [Nat.zero_add, cell_row _ g12 j _ _ hx12]; simp⟩⟩ (fun h => by cases h) (rfC_one _) (by omega) (by omega) hBW ?_
            intro v13 U20 hown13 hbb hfr
            rw [← rfCs_snoc] at hown13
            have hx := hHeld.keep hbb (by omega) (by omega) (by omega)
            replace hBW := Nat.le_trans hBW hbb.size
            replace hbd := hbd.trans (hbb.mono hw0)
            have hka2 := (hfr ba (blk_lt hka) (own_type hown10 hka (by decide))).trans hka
            clear hHeld hbb hfr hown10 hx12 hka
            have hka := hka2
            clear hka2
            obtain ⟨A13, c13, rfl⟩ := own_form' hown13
            refine hK.out _ _ (by exact hx) (fun hHeld => ?_)
            clear hK K
            (try simp only [Act.put, List.setIfInBounds_toArray, List.set_cons_zero, List.set_cons_succ, List.getElem_toArray, List.getElem_cons_succ, List.getElem_cons_zero])
            clear hx
            refine wpAnyH_ready (rs := [16]) (by kernel_rfl) (by simp) (AllReadyH.cons rfl (fun K hK => ?_) AllReadyH.nil)
            go_simp
            refine (HK.out.2.1 _ _ (own_rd hown13)).mono ?_
            rintro e U21 ⟨v, rfl, ⟨bb, rfl, -, hkb⟩, hbb⟩
            have hx := hHeld.below hbb
            replace hbd := hbd.trans (hbb.mono hbd.size)
            replace hka := (hbb.block _ (blk_lt hka)).trans hka
            clear hHeld hbb hown13
            refine hK.out _ _ (by exact hx) (fun hHeld => ?_)
            clear hK K
            (try simp only [Act.put, List.setIfInBounds_toArray, List.set_cons_zero, List.set_cons_succ, List.getElem_toArray, List.getElem_cons_succ, List.getElem_cons_zero])
            clear hx
            refine wpAnyH_take (i := 17) (v := ?_) rfl (by kernel_rfl) (by kernel_rfl) (by kernel_rfl) (fun _ _ _ h => h) (Or.inl ⟨by kernel_rfl, ?_⟩) hHeld ?_
            rotate_left
            · (intro w' hSw; (try dsimp only at hSw); go_simp; try with_reducible rfl)
            simp only [Act.put, List.setIfInBounds_toArray, List.set_cons_zero, List.set_cons_succ, List.getElem_toArray, List.getElem_cons_succ, List.getElem_cons_zero]
            refine wpAnyH_take (i := 18) (v := ?_) rfl (by kernel_rfl) (by kernel_rfl) (by kernel_rfl) (fun _ _ _ h => h) (Or.inl ⟨by kernel_rfl, ?_⟩) hHeld ?_
            rotate_left
            · (intro w' hSw; (try dsimp only at hSw); go_simp; try with_reducible rfl)
            simp only [Act.put, List.setIfInBounds_toArray, List.set_cons_zero, List.set_cons_succ, List.getElem_toArray, List.getElem_cons_succ, List.getElem_cons_zero]
            refine wpAnyH_done (by kernel_rfl) ?_ _
            exact hrest _ _ _ _ _ _ _ ⟨ba, bb, rfl, rfl, hka, hkb, hHeld, hbd⟩
          · go_simp
            have hx12 : (U17.alloc (.cells (rfC ⟨xm, xn, xt, xnm, xtil⟩).toArray 39)).heap[U17.heap.size]? = some (.cells (rfC ⟨xm, xn, xt, xnm, xtil⟩).toArray 39 (0, 0)) := heap_alloc_new U17 _
            have hbb : Below U17.heap.size U17 (U17.alloc (.cells (rfC ⟨xm, xn, xt, xnm, xtil⟩).toArray 39)) := (Below.refl _ _).alloc (Nat.le_refl _) _
            have hne : U17.heap.size ≠ g7 := Nat.ne_of_gt hg7
            have hx := hHeld.below hbb
            replace hbd := hbd.trans (hbb.mono hbd.size)
            replace hBW := Nat.le_trans hBW hbb.size
            replace hr1 := hr1.below hbb
            replace hka := (hbb.block _ (blk_lt hka)).trans hka
            replace hown7 := own_below hown7 hbb
            replace hg7 := Nat.lt_of_lt_of_le hg7 hbb.size
            clear hHeld hbb
            generalize hg : U17.heap.size = g12 at hx12 hne ⊢
            change K _ (U17.alloc (.cells (rfC ⟨xm, xn, xt, xnm, xtil⟩).toArray 39))
            generalize U17.alloc (.cells (rfC ⟨xm, xn, xt, xnm, xtil⟩).toArray 39) = U22 at hx hbd hBW hr1 hx12 hka hown7 hg7 ⊢
            clear hg
            refine hK.out _ _ (by exact hx) (fun hHeld => ?_)
            clear hK K
            (try simp only [Act.put, List.setIfInBounds_toArray, List.set_cons_zero, List.set_cons_succ, List.getElem_toArray, List.getElem_cons_succ, List.getElem_cons_zero])
            clear hx
            refine wpAnyH_ready (rs := [10]) (by kernel_rfl) (by simp) (AllReadyH.cons rfl (fun K hK => ?_) AllReadyH.nil)
            refine step_push_g rfl (.tmp 75) (.tmp 77) 32 rfl B0 39 (.agg #[.string ⟨#[]⟩, .int .i64 0, .int .i64 0, .string ⟨#[]⟩, .int .i64 0]) 5 56 Tryz.underlying32 info_ref (by decide) (by decide) _ _ 0 [] A n c (rfCs l) rfl hown7 rfl hr1 HH.out.2.2.2.2.2.2.2.2 (rfCs_one l) (by omega) (by omega) hBW ?_
            intro v10 U23 hown10 hbb hfr
            rw [Nat.zero_add, List.nil_append] at hown10
            have hx := hHeld.keep hbb (by omega) (by omega) (by omega)
            replace hBW := Nat.le_trans hBW hbb.size
            replace hbd := hbd.trans (hbb.mono hw0)
            have hka2 := (hfr ba (blk_lt hka) (own_type hown7 hka (by decide))).trans hka
            have hx12b := (hfr g12 (blk_lt hx12) (fun eq => hne (Option.some.inj (show some g12 = some g7 from eq.symm)))).trans hx12
            clear hHeld hbb hfr hown7 hg7 hka hx12 hne
            have hka := hka2
            clear hka2
            have hx12 := hx12b
            clear hx12b
            clear hr1
            refine hK.out _ _ (by exact hx) (fun hHeld => ?_)
            clear hK K
            (try simp only [Act.put, List.setIfInBounds_toArray, List.set_cons_zero, List.set_cons_succ, List.getElem_toArray, List.getElem_cons_succ, List.getElem_cons_zero])
            clear hx
            refine wpAnyH_ready (rs := [13]) (by kernel_rfl) (by simp) (AllReadyH.cons rfl (fun K hK => ?_) AllReadyH.nil)
            refine step_push_g rfl (.tmp 78) (.tmp 80) 32 rfl B0 39 (.agg #[.string ⟨#[]⟩, .int .i64 0, .int .i64 0, .string ⟨#[]⟩, .int .i64 0]) 5 56 Tryz.underlying32 info_ref (by decide) (by decide) _ _ n (rfCs l) (some ⟨g12, 0, none⟩) 1 1 (rfC ⟨xm, xn, xt, xnm, xtil⟩) rfl hown10 rfl ⟨rfl, fun _ => ⟨g12, 0, rfl, blk_lt hx12, fun j hj => by rw [Nat.zero_add, cell_row _ g12 j _ _ hx12]; simp⟩⟩ (fun h => by cases h) (rfC_one _) (by omega) (by omega) hBW ?_
            intro v13 U24 hown13 hbb hfr
            rw [← rfCs_snoc] at hown13
            have hx := hHeld.keep hbb (by omega) (by omega) (by omega)
            replace hBW := Nat.le_trans hBW hbb.size
            replace hbd := hbd.trans (hbb.mono hw0)
            have hka2 := (hfr ba (blk_lt hka) (own_type hown10 hka (by decide))).trans hka
            clear hHeld hbb hfr hown10 hx12 hka
            have hka := hka2
            clear hka2
            obtain ⟨A13, c13, rfl⟩ := own_form' hown13
            refine hK.out _ _ (by exact hx) (fun hHeld => ?_)
            clear hK K
            (try simp only [Act.put, List.setIfInBounds_toArray, List.set_cons_zero, List.set_cons_succ, List.getElem_toArray, List.getElem_cons_succ, List.getElem_cons_zero])
            clear hx
            refine wpAnyH_ready (rs := [16]) (by kernel_rfl) (by simp) (AllReadyH.cons rfl (fun K hK => ?_) AllReadyH.nil)
            go_simp
            refine (HK.out.2.1 _ _ (own_rd hown13)).mono ?_
            rintro e U25 ⟨v, rfl, ⟨bb, rfl, -, hkb⟩, hbb⟩
            have hx := hHeld.below hbb
            replace hbd := hbd.trans (hbb.mono hbd.size)
            replace hka := (hbb.block _ (blk_lt hka)).trans hka
            clear hHeld hbb hown13
            refine hK.out _ _ (by exact hx) (fun hHeld => ?_)
            clear hK K
            (try simp only [Act.put, List.setIfInBounds_toArray, List.set_cons_zero, List.set_cons_succ, List.getElem_toArray, List.getElem_cons_succ, List.getElem_cons_zero])
            clear hx
            refine wpAnyH_take (i := 17) (v := ?_) rfl (by kernel_rfl) (by kernel_rfl) (by kernel_rfl) (fun _ _ _ h => h) (Or.inl ⟨by kernel_rfl, ?_⟩) hHeld ?_
            rotate_left
            · (intro w' hSw; (try dsimp only at hSw); go_simp; try with_reducible rfl)
            simp only [Act.put, List.setIfInBounds_toArray, List.set_cons_zero, List.set_cons_succ, List.getElem_toArray, List.getElem_cons_succ, List.getElem_cons_zero]
            refine wpAnyH_take (i := 18) (v := ?_) rfl (by kernel_rfl) (by kernel_rfl) (by kernel_rfl) (fun _ _ _ h => h) (Or.inl ⟨by kernel_rfl, ?_⟩) hHeld ?_
            rotate_left
            · (intro w' hSw; (try dsimp only at hSw); go_simp; try with_reducible rfl)
            simp only [Act.put, List.setIfInBounds_toArray, List.set_cons_zero, List.set_cons_succ, List.getElem_toArray, List.getElem_cons_succ, List.getElem_cons_zero]
            refine wpAnyH_done (by kernel_rfl) ?_ _
            exact hrest _ _ _ _ _ _ _ ⟨ba, bb, rfl, rfl, hka, hkb, hHeld, hbd⟩
        · go_simp
          have hx12 : (U16.alloc (.cells (rfC ⟨xm, xn, xt, xnm, xtil⟩).toArray 39)).heap[U16.heap.size]? = some (.cells (rfC ⟨xm, xn, xt, xnm, xtil⟩).toArray 39 (0, 0)) := heap_alloc_new U16 _
          have hbb : Below U16.heap.size U16 (U16.alloc (.cells (rfC ⟨xm, xn, xt, xnm, xtil⟩).toArray 39)) := (Below.refl _ _).alloc (Nat.le_refl _) _
          have hne : U16.heap.size ≠ g7 := Nat.ne_of_gt hg7
          have hx := hHeld.below hbb
          replace hbd := hbd.trans (hbb.mono hbd.size)
          replace hBW := Nat.le_trans hBW hbb.size
          replace hr1 := hr1.below hbb
          replace hown7 := own_below hown7 hbb
          replace hg7 := Nat.lt_of_lt_of_le hg7 hbb.size
          clear hHeld hbb
          generalize hg : U16.heap.size = g12 at hx12 hne ⊢
          change K _ (U16.alloc (.cells (rfC ⟨xm, xn, xt, xnm, xtil⟩).toArray 39))
          generalize U16.alloc (.cells (rfC ⟨xm, xn, xt, xnm, xtil⟩).toArray 39) = U26 at hx hbd hBW hr1 hx12 hown7 hg7 ⊢
          clear hg
          refine hK.out _ _ (by exact hx) (fun hHeld => ?_)
          clear hK K
          (try simp only [Act.put, List.setIfInBounds_toArray, List.set_cons_zero, List.set_cons_succ, List.getElem_toArray, List.getElem_cons_succ, List.getElem_cons_zero])
          clear hx
          refine wpAnyH_ready (rs := [5]) (by kernel_rfl) (by simp) (AllReadyH.cons rfl (fun K hK => ?_) AllReadyH.nil)
          go_simp
          refine (HK.out.1 _ ⟨_, _, rfl, hr1⟩).mono ?_
          rintro e U27 ⟨v, rfl, ⟨ba, rfl, -, hka⟩, hbb⟩
          have hx := hHeld.below hbb
          replace hbd := hbd.trans (hbb.mono hbd.size)
          replace hBW := Nat.le_trans hBW hbb.size
          replace hr1 := hr1.below hbb
          replace hown7 := own_below hown7 hbb
          replace hg7 := Nat.lt_of_lt_of_le hg7 hbb.size
          replace hx12 := (hbb.block _ (blk_lt hx12)).trans hx12
          clear hHeld hbb
          refine hK.out _ _ (by exact hx) (fun hHeld => ?_)
          clear hK K
          (try simp only [Act.put, List.setIfInBounds_toArray, List.set_cons_zero, List.set_cons_succ, List.getElem_toArray, List.getElem_cons_succ, List.getElem_cons_zero])
          clear hx
          refine wpAnyH_ready (rs := [10]) (by kernel_rfl) (by simp) (AllReadyH.cons rfl (fun K hK => ?_) AllReadyH.nil)
          refine step_push_g rfl (.tmp 75) (.tmp 77) 32 rfl B0 39 (.agg #[.string ⟨#[]⟩, .int .i64 0, .int .i64 0, .string ⟨#[]⟩, .int .i64 0]) 5 56 Tryz.underlying32 info_ref (by decide) (by decide) _ _ 0 [] A n c (rfCs l) rfl hown7 rfl hr1 HH.out.2.2.2.2.2.2.2.2 (rfCs_one l) (by omega) (by omega) hBW ?_
          intro v10 U28 hown10 hbb hfr
          rw [Nat.zero_add, List.nil_append] at hown10
          have hx := hHeld.keep hbb (by omega) (by omega) (by omega)
          replace hBW := Nat.le_trans hBW hbb.size
          replace hbd := hbd.trans (hbb.mono hw0)
          have hka2 := (hfr ba (blk_lt hka) (own_type hown7 hka (by decide))).trans hka
          have hx12b := (hfr g12 (blk_lt hx12) (fun eq => hne (Option.some.inj (show some g12 = some g7 from eq.symm)))).trans hx12
          clear hHeld hbb hfr hown7 hg7 hka hx12 hne
          have hka := hka2
          clear hka2
          have hx12 := hx12b
          clear hx12b
          clear hr1
          refine hK.out _ _ (by exact hx) (fun hHeld => ?_)
          clear hK K
          (try simp only [Act.put, List.setIfInBounds_toArray, List.set_cons_zero, List.set_cons_succ, List.getElem_toArray, List.getElem_cons_succ, List.getElem_cons_zero])
          clear hx
          refine wpAnyH_ready (rs := [13]) (by kernel_rfl) (by simp) (AllReadyH.cons rfl (fun K hK => ?_) AllReadyH.nil)
          refine step_push_g rfl (.tmp 78) (.tmp 80) 32 rfl B0 39 (.agg #[.string ⟨#[]⟩, .int .i64 0, .int .i64 0, .string ⟨#[]⟩, .int .i64 0]) 5 56 Tryz.underlying32 info_ref (by decide) (by decide) _ _ n (rfCs l) (some ⟨g12, 0, none⟩) 1 1 (rfC ⟨xm, xn, xt, xnm, xtil⟩) rfl hown10 rfl ⟨rfl, fun _ => ⟨g12, 0, rfl, blk_lt hx12, fun j hj => by rw [Nat.zero_add, cell_row _ g12 j _ _ hx12]; simp⟩⟩ (fun h => by cases h) (rfC_one _) (by omega) (by omega) hBW ?_
          intro v13 U29 hown13 hbb hfr
          rw [← rfCs_snoc] at hown13
          have hx := hHeld.keep hbb (by omega) (by omega) (by omega)
          replace hBW := Nat.le_trans hBW hbb.size
          replace hbd := hbd.trans (hbb.mono hw0)
          have hka2 := (hfr ba (blk_lt hka) (own_type hown10 hka (by decide))).trans hka
          clear hHeld hbb hfr hown10 hx12 hka
          have hka := hka2
          clear hka2
          obtain ⟨A13, c13, rfl⟩ := own_form' hown13
          refine hK.out _ _ (by exact hx) (fun hHeld => ?_)
          clear hK K
          (try simp only [Act.put, List.setIfInBounds_toArray, List.set_cons_zero, List.set_cons_succ, List.getElem_toArray, List.getElem_cons_succ, List.getElem_cons_zero])
          clear hx
          refine wpAnyH_ready (rs := [16]) (by kernel_rfl) (by simp) (AllReadyH.cons rfl (fun K hK => ?_) AllReadyH.nil)
          go_simp
          refine (HK.out.2.1 _ _ (own_rd hown13)).mono ?_
          rintro e U30 ⟨v, rfl, ⟨bb, rfl, -, hkb⟩, hbb⟩
          have hx := hHeld.below hbb
          replace hbd := hbd.trans (hbb.mono hbd.size)
          replace hka := (hbb.block _ (blk_lt hka)).trans hka
          clear hHeld hbb hown13
          refine hK.out _ _ (by exact hx) (fun hHeld => ?_)
          clear hK K
          (try simp only [Act.put, List.setIfInBounds_toArray, List.set_cons_zero, List.set_cons_succ, List.getElem_toArray, List.getElem_cons_succ, List.getElem_cons_zero])
          clear hx
          refine wpAnyH_take (i := 17) (v := ?_) rfl (by kernel_rfl) (by kernel_rfl) (by kernel_rfl) (fun _ _ _ h => h) (Or.inl ⟨by kernel_rfl, ?_⟩) hHeld ?_
          rotate_left
          · (intro w' hSw; (try dsimp only at hSw); go_simp; try with_reducible rfl)
          simp only [Act.put, List.setIfInBounds_toArray, List.set_cons_zero, List.set_cons_succ, List.getElem_toArray, List.getElem_cons_succ, List.getElem_cons_zero]
          refine wpAnyH_take (i := 18) (v := ?_) rfl (by kernel_rfl) (by kernel_rfl) (by kernel_rfl) (fun _ _ _ h => h) (Or.inl ⟨by kernel_rfl, ?_⟩) hHeld ?_
          rotate_left
          · (intro w' hSw; (try dsimp only at hSw); go_simp; try with_reducible rfl)
          simp only [Act.put, List.setIfInBounds_toArray, List.set_cons_zero, List.set_cons_succ, List.getElem_toArray, List.getElem_cons_succ, List.getElem_cons_zero]
          refine wpAnyH_done (by kernel_rfl) ?_ _
          exact hrest _ _ _ _ _ _ _ ⟨ba, bb, rfl, rfl, hka, hkb, hHeld, hbd⟩
      · go_simp
        have hx12 : (W1.alloc (.cells (rfC ⟨xm, xn, xt, xnm, xtil⟩).toArray 39)).heap[W1.heap.size]? = some (.cells (rfC ⟨xm, xn, xt, xnm, xtil⟩).toArray 39 (0, 0)) := heap_alloc_new W1 _
        have hbb : Below W1.heap.size W1 (W1.alloc (.cells (rfC ⟨xm, xn, xt, xnm, xtil⟩).toArray 39)) := (Below.refl _ _).alloc (Nat.le_refl _) _
        have hx := hHeld.below hbb
        replace hbd := hbd.trans (hbb.mono hbd.size)
        replace hBW := Nat.le_trans hBW hbb.size
        replace hr1 := hr1.below hbb
        clear hHeld hbb
        generalize hg : W1.heap.size = g12 at hx12 ⊢
        change K _ (W1.alloc (.cells (rfC ⟨xm, xn, xt, xnm, xtil⟩).toArray 39))
        generalize W1.alloc (.cells (rfC ⟨xm, xn, xt, xnm, xtil⟩).toArray 39) = U31 at hx hbd hBW hr1 hx12 ⊢
        clear hg
        refine hK.out _ _ (by exact hx) (fun hHeld => ?_)
        clear hK K
        (try simp only [Act.put, List.setIfInBounds_toArray, List.set_cons_zero, List.set_cons_succ, List.getElem_toArray, List.getElem_cons_succ, List.getElem_cons_zero])
        clear hx
        refine wpAnyH_ready (rs := [5, 7]) (by kernel_rfl) (by simp) (AllReadyH.cons rfl (fun K hK => ?_) (AllReadyH.cons rfl (fun K hK => ?_) AllReadyH.nil))
        · go_simp
          refine (HK.out.1 _ ⟨_, _, rfl, hr1⟩).mono ?_
          rintro e U32 ⟨v, rfl, ⟨ba, rfl, -, hka⟩, hbb⟩
          have hx := hHeld.below hbb
          replace hbd := hbd.trans (hbb.mono hbd.size)
          replace hBW := Nat.le_trans hBW hbb.size
          replace hr1 := hr1.below hbb
          replace hx12 := (hbb.block _ (blk_lt hx12)).trans hx12
          clear hHeld hbb
          refine hK.out _ _ (by exact hx) (fun hHeld => ?_)
          clear hK K
          (try simp only [Act.put, List.setIfInBounds_toArray, List.set_cons_zero, List.set_cons_succ, List.getElem_toArray, List.getElem_cons_succ, List.getElem_cons_zero])
          clear hx
          refine wpAnyH_ready (rs := [7]) (by kernel_rfl) (by simp) (AllReadyH.cons rfl (fun K hK => ?_) AllReadyH.nil)
          go_simp
          have hown7 : (U32.alloc (.cells #[] 39)).ownsRow B0 39 5 (.slice (some ⟨U32.heap.size, 0, none⟩) 0 0) 0 [] := own_weak (own_zero U32 _) hBW
          have hbb : Below U32.heap.size U32 (U32.alloc (.cells #[] 39)) := (Below.refl _ _).alloc (Nat.le_refl _) _
          have hg7 : U32.heap.size < (U32.alloc (.cells #[] 39)).heap.size := by simp
          have hne : g12 ≠ U32.heap.size := Nat.ne_of_lt (blk_lt hx12)
          have hx := hHeld.below hbb
          replace hbd := hbd.trans (hbb.mono hbd.size)
          replace hBW := Nat.le_trans hBW hbb.size
          replace hr1 := hr1.below hbb
          replace hka := (hbb.block _ (blk_lt hka)).trans hka
          replace hx12 := (hbb.block _ (blk_lt hx12)).trans hx12
          clear hHeld hbb
          generalize hg : U32.heap.size = g7 at hown7 hg7 hne ⊢
          generalize U32.alloc (.cells #[] 39) = U33 at hx hbd hBW hr1 hown7 hg7 hka hx12 ⊢
          clear hg
          refine hK.out _ _ (by exact hx) (fun hHeld => ?_)
          clear hK K
          (try simp only [Act.put, List.setIfInBounds_toArray, List.set_cons_zero, List.set_cons_succ, List.getElem_toArray, List.getElem_cons_succ, List.getElem_cons_zero])
          clear hx
          refine wpAnyH_ready (rs := [10]) (by kernel_rfl) (by simp) (AllReadyH.cons rfl (fun K hK => ?_) AllReadyH.nil)
          refine step_push_g rfl (.tmp 75) (.tmp 77) 32 rfl B0 39 (.agg #[.string ⟨#[]⟩, .int .i64 0, .int .i64 0, .string ⟨#[]⟩, .int .i64 0]) 5 56 Tryz.underlying32 info_ref (by decide) (by decide) _ _ 0 [] A n c (rfCs l) rfl hown7 rfl hr1 HH.out.2.2.2.2.2.2.2.2 (rfCs_one l) (by omega) (by omega) hBW ?_
          intro v10 U34 hown10 hbb hfr
          rw [Nat.zero_add, List.nil_append] at hown10
          have hx := hHeld.keep hbb (by omega) (by omega) (by omega)
          replace hBW := Nat.le_trans hBW hbb.size
          replace hbd := hbd.trans (hbb.mono hw0)
          have hka2 := (hfr ba (blk_lt hka) (own_type hown7 hka (by decide))).trans hka
          have hx12b := (hfr g12 (blk_lt hx12) (fun eq => hne (Option.some.inj (show some g12 = some g7 from eq.symm)))).trans hx12
          clear hHeld hbb hfr hown7 hg7 hka hx12 hne
          have hka := hka2
          clear hka2
          have hx12 := hx12b
          clear hx12b
          clear hr1
          refine hK.out _ _ (by exact hx) (fun hHeld => ?_)
          clear hK K
          (try simp only [Act.put, List.setIfInBounds_toArray, List.set_cons_zero, List.set_cons_succ, List.getElem_toArray, List.getElem_cons_succ, List.getElem_cons_zero])
          clear hx
          refine wpAnyH_ready (rs := [13]) (by kernel_rfl) (by simp) (AllReadyH.cons rfl (fun K hK => ?_) AllReadyH.nil)
          refine step_push_g rfl (.tmp 78) (.tmp 80) 32 rfl B0 39 (.agg #[.string ⟨#[]⟩, .int .i64 0, .int .i64 0, .string ⟨#[]⟩, .int .i64 0]) 5 56 Tryz.underlying32 info_ref (by decide) (by decide) _ _ n (rfCs l) (some ⟨g12, 0, none⟩) 1 1 (rfC ⟨xm, xn, xt, xnm, xtil⟩) rfl hown10 rfl ⟨rfl, fun _ => ⟨g12, 0, rfl, blk_lt hx12, fun j hj => by rw [Nat.zero_add, cell_row _ g12 j _ _ hx12]; simp⟩⟩ (fun h => by cases h) (rfC_one _) (by omega) (by omega) hBW ?_
          intro v13 U35 hown13 hbb hfr
          rw [← rfCs_snoc] at hown13
          have hx := hHeld.keep hbb (by omega) (by omega) (by omega)
          replace hBW := Nat.le_trans hBW hbb.size
          replace hbd := hbd.trans (hbb.mono hw0)
          have hka2 := (hfr ba (blk_lt hka) (own_type hown10 hka (by decide))).trans hka
          clear hHeld hbb hfr hown10 hx12 hka
          have hka := hka2
          clear hka2
          obtain ⟨A13, c13, rfl⟩ := own_form' hown13
          refine hK.out _ _ (by exact hx) (fun hHeld => ?_)
          clear hK K
          (try simp only [Act.put, List.setIfInBounds_toArray, List.set_cons_zero, List.set_cons_succ, List.getElem_toArray, List.getElem_cons_succ, List.getElem_cons_zero])
          clear hx
          refine wpAnyH_ready (rs := [16]) (by kernel_rfl) (by simp) (AllReadyH.cons rfl (fun K hK => ?_) AllReadyH.nil)
          go_simp
          refine (HK.out.2.1 _ _ (own_rd hown13)).mono ?_
          rintro e U36 ⟨v, rfl, ⟨bb, rfl, -, hkb⟩, hbb⟩
          have hx := hHeld.below hbb
          replace hbd := hbd.trans (hbb.mono hbd.size)
          replace hka := (hbb.block _ (blk_lt hka)).trans hka
          clear hHeld hbb hown13
          refine hK.out _ _ (by exact hx) (fun hHeld => ?_)
          clear hK K
          (try simp only [Act.put, List.setIfInBounds_toArray, List.set_cons_zero, List.set_cons_succ, List.getElem_toArray, List.getElem_cons_succ, List.getElem_cons_zero])
          clear hx
          refine wpAnyH_take (i := 17) (v := ?_) rfl (by kernel_rfl) (by kernel_rfl) (by kernel_rfl) (fun _ _ _ h => h) (Or.inl ⟨by kernel_rfl, ?_⟩) hHeld ?_
          rotate_left
          · (intro w' hSw; (try dsimp only at hSw); go_simp; try with_reducible rfl)
          simp only [Act.put, List.setIfInBounds_toArray, List.set_cons_zero, List.set_cons_succ, List.getElem_toArray, List.getElem_cons_succ, List.getElem_cons_zero]
          refine wpAnyH_take (i := 18) (v := ?_) rfl (by kernel_rfl) (by kernel_rfl) (by kernel_rfl) (fun _ _ _ h => h) (Or.inl ⟨by kernel_rfl, ?_⟩) hHeld ?_
          rotate_left
          · (intro w' hSw; (try dsimp only at hSw); go_simp; try with_reducible rfl)
          simp only [Act.put, List.setIfInBounds_toArray, List.set_cons_zero, List.set_cons_succ, List.getElem_toArray, List.getElem_cons_succ, List.getElem_cons_zero]
          refine wpAnyH_done (by kernel_rfl) ?_ _
          exact hrest _ _ _ _ _ _ _ ⟨ba, bb, rfl, rfl, hka, hkb, hHeld, hbd⟩
        · go_simp
          have hown7 : (U31.alloc (.cells #[] 39)).ownsRow B0 39 5 (.slice (some ⟨U31.heap.size, 0, none⟩) 0 0) 0 [] := own_weak (own_zero U31 _) hBW
          have hbb : Below U31.heap.size U31 (U31.alloc (.cells #[] 39)) := (Below.refl _ _).alloc (Nat.le_refl _) _
          have hg7 : U31.heap.size < (U31.alloc (.cells #[] 39)).heap.size := by simp
          have hne : g12 ≠ U31.heap.size := Nat.ne_of_lt (blk_lt hx12)
          have hx := hHeld.below hbb
          replace hbd := hbd.trans (hbb.mono hbd.size)
          replace hBW := Nat.le_trans hBW hbb.size
          replace hr1 := hr1.below hbb
          replace hx12 := (hbb.block _ (blk_lt hx12)).trans hx12
          clear hHeld hbb
          generalize hg : U31.heap.size = g7 at hown7 hg7 hne ⊢
          generalize U31.alloc (.cells #[] 39) = U37 at hx hbd hBW hr1 hown7 hg7 hx12 ⊢
          clear hg
          refine hK.out _ _ (by exact hx) (fun hHeld => ?_)
          clear hK K
          (try simp only [Act.put, List.setIfInBounds_toArray, List.set_cons_zero, List.set_cons_succ, List.getElem_toArray, List.getElem_cons_succ, List.getElem_cons_zero])
          clear hx
          refine wpAnyH_ready (rs := [5]) (by kernel_rfl) (by simp) (AllReadyH.cons rfl (fun K hK => ?_) AllReadyH.nil)
          go_simp
          refine (HK.out.1 _ ⟨_, _, rfl, hr1⟩).mono ?_
          rintro e U38 ⟨v, rfl, ⟨ba, rfl, -, hka⟩, hbb⟩
          have hx := hHeld.below hbb
          replace hbd := hbd.trans (hbb.mono hbd.size)
          replace hBW := Nat.le_trans hBW hbb.size
          replace hr1 := hr1.below hbb
          replace hown7 := own_below hown7 hbb
          replace hg7 := Nat.lt_of_lt_of_le hg7 hbb.size
          replace hx12 := (hbb.block _ (blk_lt hx12)).trans hx12
          clear hHeld hbb
          refine hK.out _ _ (by exact hx) (fun hHeld => ?_)
          clear hK K
          (try simp only [Act.put, List.setIfInBounds_toArray, List.set_cons_zero, List.set_cons_succ, List.getElem_toArray, List.getElem_cons_succ, List.getElem_cons_zero])
          clear hx
          refine wpAnyH_ready (rs := [10]) (by kernel_rfl) (by simp) (AllReadyH.cons rfl (fun K hK => ?_) AllReadyH.nil)
          refine step_push_g rfl (.tmp 75) (.tmp 77) 32 rfl B0 39 (.agg #[.string ⟨#[]⟩, .int .i64 0, .int .i64 0, .string ⟨#[]⟩, .int .i64 0]) 5 56 Tryz.underlying32 info_ref (by decide) (by decide) _ _ 0 [] A n c (rfCs l) rfl hown7 rfl hr1 HH.out.2.2.2.2.2.2.2.2 (rfCs_one l) (by omega) (by omega) hBW ?_
          intro v10 U39 hown10 hbb hfr
          rw [Nat.zero_add, List.nil_append] at hown10
          have hx := hHeld.keep hbb (by omega) (by omega) (by omega)
          replace hBW := Nat.le_trans hBW hbb.size
          replace hbd := hbd.trans (hbb.mono hw0)
          have hka2 := (hfr ba (blk_lt hka) (own_type hown7 hka (by decide))).trans hka
          have hx12b := (hfr g12 (blk_lt hx12) (fun eq => hne (Option.some.inj (show some g12 = some g7 from eq.symm)))).trans hx12
          clear hHeld hbb hfr hown7 hg7 hka hx12 hne
          have hka := hka2
          clear hka2
          have hx12 := hx12b
          clear hx12b
          clear hr1
          refine hK.out _ _ (by exact hx) (fun hHeld => ?_)
          clear hK K
          (try simp only [Act.put, List.setIfInBounds_toArray, List.set_cons_zero, List.set_cons_succ, List.getElem_toArray, List.getElem_cons_succ, List.getElem_cons_zero])
          clear hx
          refine wpAnyH_ready (rs := [13]) (by kernel_rfl) (by simp) (AllReadyH.cons rfl (fun K hK => ?_) AllReadyH.nil)
          refine step_push_g rfl (.tmp 78) (.tmp 80) 32 rfl B0 39 (.agg #[.string ⟨#[]⟩, .int .i64 0, .int .i64 0, .string ⟨#[]⟩, .int .i64 0]) 5 56 Tryz.underlying32 info_ref (by decide) (by decide) _ _ n (rfCs l) (some ⟨g12, 0, none⟩) 1 1 (rfC ⟨xm, xn, xt, xnm, xtil⟩) rfl hown10 rfl ⟨rfl, fun _ => ⟨g12, 0, rfl, blk_lt hx12, fun j hj => by rw [Nat.zero_add, cell_row _ g12 j _ _ hx12]; simp⟩⟩ (fun h => by cases h) (rfC_one _) (by omega) (by omega) hBW ?_
          intro v13 U40 hown13 hbb hfr
          rw [← rfCs_snoc] at hown13
          have hx := hHeld.keep hbb (by omega) (by omega) (by omega)
          replace hBW := Nat.le_trans hBW hbb.size
          replace hbd := hbd.trans (hbb.mono hw0)
          have hka2 := (hfr ba (blk_lt hka) (own_type hown10 hka (by decide))).trans hka
          clear hHeld hbb hfr hown10 hx12 hka
          have hka := hka2
          clear hka2
          obtain ⟨A13, c13, rfl⟩ := own_form' hown13
          refine hK.out _ _ (by exact hx) (fun hHeld => ?_)
          clear hK K
          (try simp only [Act.put, List.setIfInBounds_toArray, List.set_cons_zero, List.set_cons_succ, List.getElem_toArray, List.getElem_cons_succ, List.getElem_cons_zero])
          clear hx
          refine wpAnyH_ready (rs := [16]) (by kernel_rfl) (by simp) (AllReadyH.cons rfl (fun K hK => ?_) AllReadyH.nil)
          go_simp
          refine (HK.out.2.1 _ _ (own_rd hown13)).mono ?_
          rintro e U41 ⟨v, rfl, ⟨bb, rfl, -, hkb⟩, hbb⟩
          have hx := hHeld.below hbb
          replace hbd := hbd.trans (hbb.mono hbd.size)
          replace hka := (hbb.block _ (blk_lt hka)).trans hka
          clear hHeld hbb hown13
          refine hK.out _ _ (by exact hx) (fun hHeld => ?_)
          clear hK K
          (try simp only [Act.put, List.setIfInBounds_toArray, List.set_cons_zero, List.set_cons_succ, List.getElem_toArray, List.getElem_cons_succ, List.getElem_cons_zero])
          clear hx
          refine wpAnyH_take (i := 17) (v := ?_) rfl (by kernel_rfl) (by kernel_rfl) (by kernel_rfl) (fun _ _ _ h => h) (Or.inl ⟨by kernel_rfl, ?_⟩) hHeld ?_
          rotate_left
          · (intro w' hSw; (try dsimp only at hSw); go_simp; try with_reducible rfl)
          simp only [Act.put, List.setIfInBounds_toArray, List.set_cons_zero, List.set_cons_succ, List.getElem_toArray, List.getElem_cons_succ, List.getElem_cons_zero]
          refine wpAnyH_take (i := 18) (v := ?_) rfl (by kernel_rfl) (by kernel_rfl) (by kernel_rfl) (fun _ _ _ h => h) (Or.inl ⟨by kernel_rfl, ?_⟩) hHeld ?_
          rotate_left
          · (intro w' hSw; (try dsimp only at hSw); go_simp; try with_reducible rfl)
          simp only [Act.put, List.setIfInBounds_toArray, List.set_cons_zero, List.set_cons_succ, List.getElem_toArray, List.getElem_cons_succ, List.getElem_cons_zero]
          refine wpAnyH_done (by kernel_rfl) ?_ _
          exact hrest _ _ _ _ _ _ _ ⟨ba, bb, rfl, rfl, hka, hkb, hHeld, hbd⟩
-- FRAME
set_option maxRecDepth 100000 in
theorem policyLater_lifted (os : Os) (started : os.Started) (H : Type) (enc : TypeId × Value → H) :
    ReturnsInHanded {} Tryz.checked os 6 .any (fun w args => (Rows.policyLaterSpec.pre enc Tryz.prog Tryz.f6 [] false w args ∧ laidMetH Tryz.prog tabs7 w) ∧ sizedMet enc Tryz.prog Tryz.f6 (OpenSpec.ofChange Rows.policyLaterSpec) false w args) (Rows.policyLaterSpec.post enc Tryz.prog Tryz.f6 false true false false) := by
  refine handed_and_shaped (C := Tryz.checked) (X := fun w _ => laidMetH Tryz.prog tabs7 w) (fun _ _ _ hh h => h.of_heap hh) own started (by kernel_rfl) Tryz.func6
    (ChangeSpec.witness_shaped (enc := enc) (C := Tryz.checked) (os := os) (X := fun w _ => laidMetH Tryz.prog tabs7 w) false (World.laidAll Tryz.prog os tabs7) #[.agg #[.int .i64 0, .int .i64 0, .int .i64 0, .int .i64 0], .agg #[.slice none 0 0, .int .i64 0], .agg #[.string ⟨#[]⟩, .int .i64 0, .int .i64 0, .string ⟨#[]⟩, .int .i64 0]] 8 (World.laidAll_os _ _ _) (door_shaped7 os) (by kernel_rfl) (by kernel_rfl) (by kernel_rfl) (door_met7 os _)) ?_
  intro W base args ds gs before hval0 hW hcnd hsz0 hL hsh _
  have hvars := vpol_of7 hL hsh
  have hval : ∀ (j : Nat) t v, Tryz.f6.params[j]? = some t → args[j]? = some v → Value.okWide Tryz.prog W .any base t v := hval0
  have hW' := hW
  obtain ⟨p, q, hA0, hV, rfl, hfz, hnd⟩ := hW
  have hA : DataW.TrodAll enc Tryz.prog W 0 (fun _ => true) true Tryz.f6.params.toList args.toList ds p := hA0
  have hsz : (DataW.weightsEach Tryz.prog (Tryz.f6.params.toList ++ Rows.policyLaterSpec.plain.varTypes Tryz.prog) (ds ++ gs)).all (· ≤ reachBytes) = true := hsz0
  rw [Tryz.params6] at hA hval hsz
  obtain ⟨v0, vs0, d0, ds0, p0, q0, hargs, rfl, rfl, h0, r0⟩ := trodAll_cons hA
  obtain ⟨v1, vs1, d1, ds1, p1, q1, rfl, rfl, rfl, h1, r1⟩ := trodAll_cons r0
  obtain ⟨v2, vs2, d2, ds2, p2, q2, rfl, rfl, rfl, h2, r2⟩ := trodAll_cons r1
  obtain ⟨rfl, rfl, rfl⟩ := trodAll_nil r2
  obtain rfl : args = #[v0, v1, v2] := by cases args; simp_all
  obtain ⟨rfl, rfl⟩ := trodVars_none hV
  have k0 := h0
  have lt0 : ∀ x ∈ p0, x.block < W.heap.size := by obtain ⟨m, hm⟩ := k0; exact DataW.trod_lt m _ _ _ hm
  have hz0 : ∀ m ∈ d0.weights Tryz.prog 23, m ≤ reachBytes := fun m hm => by
    have h1 := List.all_eq_true.1 hsz m (DataW.weights_mem_each (j := 0) rfl rfl m hm)
    simpa using h1
  obtain ⟨q0, rfl, eA0⟩ := open_pol (hval 0 23 v0 rfl rfl) h0 hz0
  have k1 := h1
  have lt1 : ∀ x ∈ p1, x.block < W.heap.size := by obtain ⟨m, hm⟩ := k1; exact DataW.trod_lt m _ _ _ hm
  have hz1 : ∀ m ∈ d1.weights Tryz.prog 34, m ≤ reachBytes := fun m hm => by
    have h1 := List.all_eq_true.1 hsz m (DataW.weights_mem_each (j := 1) rfl rfl m hm)
    simpa using h1
  obtain ⟨s1, l1, n1, rfl, eA1, eB1⟩ := open_by (hval 1 34 v1 rfl rfl) h1 hz1
  have k2 := h2
  have lt2 : ∀ x ∈ p2, x.block < W.heap.size := by obtain ⟨m, hm⟩ := k2; exact DataW.trod_lt m _ _ _ hm
  have hz2 : ∀ m ∈ d2.weights Tryz.prog 39, m ≤ reachBytes := fun m hm => by
    have h1 := List.all_eq_true.1 hsz m (DataW.weights_mem_each (j := 2) rfl rfl m hm)
    simpa using h1
  obtain ⟨x2, rfl, eA2⟩ := open_rf (hval 2 39 v2 rfl rfl) h2 hz2
  clear hA0 hval0 hsz0
  refine (policyLater_walk q0 s1 l1 n1 x2 W eA0 eA1 eB1 eA2 hvars).mono fun e W' ⟨v, he, hv, bel⟩ => ?_
  subst he hv
  exact ⟨_, rfl, _, _, _, [], _, [], hW', trodAll_mk1 (shut_bool Tryz.underlying4 _), (trodAll_cons_mk (Below.trod laidOut (by kernel_rfl) (of_decide_eq_true (by kernel_rfl)) k0 bel lt0) (trodAll_cons_mk (Below.trod laidOut (by kernel_rfl) (of_decide_eq_true (by kernel_rfl)) k1 bel lt1) (trodAll_cons_mk (Below.trod laidOut (by kernel_rfl) (of_decide_eq_true (by kernel_rfl)) k2 bel lt2) trodAll_mk0))), rfl, bel.frame _, fun h => by cases h⟩

theorem policyLater_row : Rows.PolicyLaterSaid :=
  OpenClaim.holds_of_wide 6 Tryz.f6 rfl rfl rfl rfl rfl rfl rfl ⟨rfl, rfl, rfl, rfl, rfl⟩ rfl rfl rfl rfl rfl (by kernel_rfl) Tryz.func6 (by kernel_rfl)
    (of_decide_eq_true (by kernel_rfl)) (by unfold Func.isWrapper; first | (rw [if_pos (by decide +kernel)]; kernel_rfl) | (rw [if_neg (by decide +kernel)]; exact ⟨rfl, rfl⟩))
    (fun os started H enc _ => policyLater_lifted os started H enc)

theorem policyLater_holds : Rows.PolicyLaterCardSaid :=
  Claim7.holds_tied_plain_at .later [] [.data, .data, .data, .data, .sentinel, .sentinel, .pinned] true (true, "02b003ade427d62ed0908f33fa3ad860fd25ad3502c2ef17bff12e515b4c93bc") true
    policyLater_row (fun _ h => by cases h) (by kernel_rfl) (fun _ h => by cases h) policyLater_row_tie rfl ⟨rfl, rfl⟩ (by kernel_rfl) rfl
    (fun f fn hf hfn => by
      obtain rfl : f = 6 := Option.some.inj ((show Tryz.prog.funcNamed "hibernacle/hibernaclelaw49.PolicyLater" = some 6 by kernel_rfl).symm.trans hf) |>.symm
      obtain rfl : fn = Tryz.f6 := (Option.some.inj (Tryz.func6.symm.trans hfn)).symm
      exact ⟨by kernel_rfl, fun j t ht => by
        rw [Tryz.params6] at ht
        rcases j with _ | _ | _ | _ | j
        all_goals first
          | (simp at ht; done)
          | (have h3 := Option.some.inj ht; subst h3; exact (show Tryz.prog.wantsStandIn _ = false by kernel_rfl))⟩)
    (by kernel_rfl)
#print axioms policyLater_holds
end Go.Proofs.YtmncgnmgdkdhaaaGreatDoor
