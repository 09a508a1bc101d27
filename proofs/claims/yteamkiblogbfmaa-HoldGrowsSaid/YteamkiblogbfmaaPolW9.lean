/- The walks of the document's period, later and kept. -/
import Derived.Test.YteamkiblogbfmaaPolMem
import Derived.Test.YteamkiblogbfmaaPolW1
import Derived.Test.YteamkiblogbfmaaDayW7
import Derived.LoopTactic
import Derived.Deep.Cut
namespace Go.Proofs.Yteamkiblogbfmaa
open Go.RowKit
set_option linter.unusedVariables false
set_option linter.unusedSimpArgs false
set_option maxRecDepth 100000 in
theorem rper_any (k : Nat) (hk : k < 4) (a : Int) (h0 : -9223372036854775808 ≤ a) (h1 : a ≤ 9223372036854775807) (w : World) : Calls Try.prog 68 #[.int .i64 (k : Int), .int .i64 a] w (fun e w' => e = .returned (.int .i64 (Pl.per k a)) ∧ Below w.heap.size w w') := by
  match k, hk with
  | 0, _ =>
    show Calls Try.prog 68 #[.int .i64 0, .int .i64 a] w _
    have hc := rday_any a h0 h1
    go_enter Try.func68, Try.ntmps68
    go_wp2_with fail
    with_reducible refine (hc _).mono ?_
    rintro e w' ⟨rfl, n, rfl⟩
    go_wp2_with fail
    go_ret
    exact ⟨rfl, below_drewN (Below.refl _ _) n⟩
  | 1, _ =>
    show Calls Try.prog 68 #[.int .i64 1, .int .i64 a] w _
    have hc := rweek_any a h0 h1
    go_enter Try.func68, Try.ntmps68
    go_wp2_with fail
    with_reducible refine (hc _).mono ?_
    rintro e w' ⟨rfl, n, rfl⟩
    go_wp2_with fail
    go_ret
    exact ⟨rfl, below_drewN (Below.refl _ _) n⟩
  | 2, _ =>
    show Calls Try.prog 68 #[.int .i64 2, .int .i64 a] w _
    have hc := rmonth_any a h0 h1
    go_enter Try.func68, Try.ntmps68
    go_wp2_with fail
    with_reducible refine (hc _).mono ?_
    rintro e w' ⟨rfl, hb⟩
    go_wp2_with fail
    go_ret
    exact ⟨rfl, hb⟩
  | 3, _ =>
    show Calls Try.prog 68 #[.int .i64 3, .int .i64 a] w _
    have hc := ryear_any a h0 h1
    go_enter Try.func68, Try.ntmps68
    go_wp2_with fail
    with_reducible refine (hc _).mono ?_
    rintro e w' ⟨rfl, hb⟩
    go_wp2_with fail
    go_ret
    exact ⟨rfl, hb⟩
set_option maxRecDepth 100000 in
theorem rlater_any (a b : Pl.Rf) (w : World) : Calls Try.prog 69 #[rfV a, rfV b] w (RetB (fun v _ => v = .bool (decide (a.m = b.m) && Pl.ltr a b)) w) := by
  obtain ⟨am, an, at', anm, atil⟩ := a
  obtain ⟨bm, bn, bt, bnm, btil⟩ := b
  show Calls Try.prog 69 #[.agg #[.string ⟨am.toArray⟩, .int .i64 an, .int .i64 at', .string ⟨anm.toArray⟩, .int .i64 atil], .agg #[.string ⟨bm.toArray⟩, .int .i64 bn, .int .i64 bt, .string ⟨bnm.toArray⟩, .int .i64 btil]] w _
  obtain ⟨E, hE⟩ : ∃ E, E = (decide (am = bm) && Pl.ltr ⟨am, an, at', anm, atil⟩ ⟨bm, bn, bt, bnm, btil⟩) := ⟨_, rfl⟩
  show Calls _ _ _ _ (RetB (fun v _ => v = .bool (decide (am = bm) && Pl.ltr ⟨am, an, at', anm, atil⟩ ⟨bm, bn, bt, bnm, btil⟩)) w)
  rw [← hE]
  have hb2 : Below w.heap.size w ((w.alloc (.cells #[.string ⟨am.toArray⟩, .int .i64 an, .int .i64 at', .string ⟨anm.toArray⟩, .int .i64 atil] 38)).alloc (.cells #[.string ⟨bm.toArray⟩, .int .i64 bn, .int .i64 bt, .string ⟨bnm.toArray⟩, .int .i64 btil] 38)) := ((Below.refl _ _).alloc (Nat.le_refl _) _).alloc (by simp) _
  unfold Pl.ltr at hE
  simp only at hE
  obtain ⟨q, hq⟩ : ∃ q, (am == bm) = q := ⟨_, rfl⟩
  have hdq : decide (am = bm) = q := by rw [← hq, Bool.eq_iff_iff]; simp
  rw [hdq] at hE
  clear hdq
  have HE := Lib.hid hE; clear hE
  cases q
  · go_enter Try.func69, Try.ntmps69
    go_wp2_with fail
    go_ret
    exact ⟨_, rfl, by rw [HE.out]; rfl, hb2⟩
  · by_cases h1 : bt < at'
    · have d1 : decide (bt < at') = true := decide_eq_true h1
      go_enter Try.func69, Try.ntmps69
      go_wp2_with fail
      go_ret
      exact ⟨_, rfl, by rw [HE.out, decide_eq_true (.inl h1)]; rfl, hb2⟩
    · have d1 : decide (bt < at') = false := decide_eq_false h1
      by_cases h2 : at' = bt
      · subst h2
        by_cases h3 : bn < an
        · have d3 : decide (bn < an) = true := decide_eq_true h3
          go_enter Try.func69, Try.ntmps69
          go_wp2_with fail
          go_ret
          have h := HE.out
          simp [h3] at h
          exact ⟨_, rfl, congrArg Value.bool h.symm, hb2⟩
        · have d3 : decide (bn < an) = false := decide_eq_false h3
          go_enter Try.func69, Try.ntmps69
          go_wp2_with fail
          go_ret
          exact ⟨_, rfl, by rw [HE.out, decide_eq_false (by omega)]; rfl, hb2⟩
      · have d2 : (at' == bt) = false := by rw [beq_eq_false_iff_ne]; exact h2
        have H2 := Lib.hid h2; clear h2
        go_enter Try.func69, Try.ntmps69
        go_wp2_with fail
        go_ret
        exact ⟨_, rfl, by rw [HE.out, decide_eq_false (by have := H2.out; omega)]; rfl, hb2⟩
theorem info_i64 : (Try.prog.info? 2).map (fun i => (i.zero, i.size, i.bytes)) = some (some (.int .i64 0), 1, 8) := by kernel_rfl
theorem aboveF_snoc (k : Nat) (m : List UInt8) (own : Int) (y : Pl.Rf) : ∀ (l : List Pl.Rf) (a : List Int), Pl.aboveF k m own (l ++ [y]) a = if y.m = m then (if Pl.per k y.t ≤ own ∨ Pl.per k y.t ∈ Pl.aboveF k m own l a then Pl.aboveF k m own l a else Pl.aboveF k m own l a ++ [Pl.per k y.t]) else Pl.aboveF k m own l a
  | [], a => rfl
  | z :: l, a => by
    show Pl.aboveF k m own (z :: (l ++ [y])) a = _
    simp only [Pl.aboveF]
    split
    · split
      · exact aboveF_snoc k m own y l _
      · exact aboveF_snoc k m own y l _
    · exact aboveF_snoc k m own y l _
theorem aboveF_take (k : Nat) (m : List UInt8) (own : Int) (l : List Pl.Rf) (j : Nat) (hj : j < l.length) (y : Pl.Rf) (hy : l.getD j default = y) (a : List Int) (ha : Pl.aboveF k m own (l.take j) [] = a) : Pl.aboveF k m own (l.take (j + 1)) [] = if y.m = m then (if Pl.per k y.t ≤ own ∨ Pl.per k y.t ∈ a then a else a ++ [Pl.per k y.t]) else a := by
  have e : l.take (j + 1) = l.take j ++ [y] := by
    rw [List.take_succ_eq_append_getElem hj, ← hy, List.getD_eq_getElem?_getD, List.getElem?_eq_getElem hj]; rfl
  rw [e, aboveF_snoc, ha]
theorem beaten_take (k : Nat) (l : List Pl.Rf) (x : Pl.Rf) (j : Nat) (hj : j < l.length) (y : Pl.Rf) (hy : l.getD j default = y) : Pl.beaten k (l.take (j + 1)) x = (Pl.beaten k (l.take j) x || (decide (y.m = x.m ∧ Pl.per k y.t = Pl.per k x.t) && Pl.ltr y x)) := by
  have e : l.take (j + 1) = l.take j ++ [y] := by
    rw [List.take_succ_eq_append_getElem hj, ← hy, List.getD_eq_getElem?_getD, List.getElem?_eq_getElem hj]; rfl
  rw [e]; unfold Pl.beaten; rw [List.any_append]; simp
theorem beaten_mono (k : Nat) (l : List Pl.Rf) (x : Pl.Rf) (j : Nat) (h : Pl.beaten k (l.take j) x = true) : Pl.beaten k l x = true := by
  rw [Pl.beaten_iff] at h ⊢
  obtain ⟨y, h1, h2⟩ := h
  exact ⟨y, List.mem_of_mem_take h1, h2⟩
/-- In the document's kept, between two snapshots. -/
structure KeptR (k : Nat) (l : List Pl.Rf) (x : Pl.Rf) (w : World) (j : Nat) (a : List Int) (v : Value) (wr : World) : Prop where
  box : wr.heap[w.heap.size]? = some (.cells (rfC x).toArray 38 (0, 0))
  own : wr.ownsRow (w.heap.size + 1) 2 1 v a.length (i64s a)
  bel : Below w.heap.size w wr
  abv : Pl.aboveF k x.m (Pl.per k x.t) (l.take j) [] = a
  few : a.length ≤ j
  not : Pl.beaten k (l.take j) x = false
theorem KeptR.below {k : Nat} {l : List Pl.Rf} {x : Pl.Rf} {w : World} {j : Nat} {a : List Int} {v : Value} {wr w1 : World} (h : KeptR k l x w j a v wr) (hb : Below wr.heap.size wr w1) : KeptR k l x w j a v w1 :=
  ⟨(hb.block _ (blk_lt h.box)).trans h.box, own_below h.own hb, h.bel.trans (hb.mono h.bel.size), h.abv, h.few, h.not⟩
theorem KeptR.other {k : Nat} {l : List Pl.Rf} {x : Pl.Rf} {w : World} {j : Nat} {a : List Int} {v : Value} {wr : World} (h : KeptR k l x w j a v wr) (hj : j < l.length) {y : Pl.Rf} (hy : l.getD j default = y) (hm : ¬ y.m = x.m) : KeptR k l x w (j + 1) a v wr := by
  refine ⟨h.box, h.own, h.bel, ?_, Nat.le_succ_of_le h.few, ?_⟩
  · rw [aboveF_take k x.m _ l j hj y hy a h.abv, if_neg hm]
  · rw [beaten_take k l x j hj y hy, h.not, decide_eq_false (fun e => hm e.1)]; rfl
theorem KeptR.same {k : Nat} {l : List Pl.Rf} {x : Pl.Rf} {w : World} {j : Nat} {a : List Int} {v : Value} {wr : World} (h : KeptR k l x w j a v wr) (hj : j < l.length) {y : Pl.Rf} (hy : l.getD j default = y) (hm : y.m = x.m) (hb : (decide (Pl.per k y.t = Pl.per k x.t) && Pl.ltr y x) = false) (hp : Pl.per k y.t ≤ Pl.per k x.t ∨ Pl.per k y.t ∈ a) : KeptR k l x w (j + 1) a v wr := by
  refine ⟨h.box, h.own, h.bel, ?_, Nat.le_succ_of_le h.few, ?_⟩
  · rw [aboveF_take k x.m _ l j hj y hy a h.abv, if_pos hm, if_pos hp]
  · rw [beaten_take k l x j hj y hy, h.not]
    simp only [hm, true_and, Bool.false_or]; exact hb
theorem KeptR.more {k : Nat} {l : List Pl.Rf} {x : Pl.Rf} {w : World} {j : Nat} {a : List Int} {v v2 : Value} {wr w2 : World} (h : KeptR k l x w j a v wr) (hj : j < l.length) {y : Pl.Rf} (hy : l.getD j default = y) (hm : y.m = x.m) (hb : (decide (Pl.per k y.t = Pl.per k x.t) && Pl.ltr y x) = false) (hp : ¬ (Pl.per k y.t ≤ Pl.per k x.t ∨ Pl.per k y.t ∈ a))
    (hown : w2.ownsRow (w.heap.size + 1) 2 1 v2 (a.length + 1) (i64s a ++ [.int .i64 (Pl.per k y.t)])) (hb2 : Below (w.heap.size + 1) wr w2) : KeptR k l x w (j + 1) (a ++ [Pl.per k y.t]) v2 w2 := by
  refine ⟨(hb2.block _ (Nat.lt_succ_self _)).trans h.box, by simpa [i64s] using hown, h.bel.trans (hb2.mono (Nat.le_succ _)), ?_, by simp; exact h.few, ?_⟩
  · rw [aboveF_take k x.m _ l j hj y hy a h.abv, if_pos hm, if_neg hp]
  · rw [beaten_take k l x j hj y hy, h.not]
    simp only [hm, true_and, Bool.false_or]; exact hb
theorem KeptR.lost {k : Nat} {l : List Pl.Rf} {x : Pl.Rf} {j : Nat} (hj : j < l.length) {y : Pl.Rf} (hy : l.getD j default = y) (hm : y.m = x.m) (hp : Pl.per k y.t = Pl.per k x.t) (hb : Pl.ltr y x = true) (most : Int) : Pl.keptD l x k most = false := by
  have : Pl.beaten k l x = true := by
    rw [Pl.beaten_iff]
    exact ⟨y, by rw [← hy]; exact Pl.getD_mem l j hj, hm, hp, hb⟩
  unfold Pl.keptD; rw [this]; rfl
def MetP (p own : Int) (a : List Int) (m i : Value) : Prop := ∃ q : Nat, i = .int .i64 q ∧ q ≤ a.length ∧ m = .bool (decide (p ≤ own) || (a.take q).any fun z => z == p)
theorem met_next (p own : Int) (a : List Int) (q : Nat) (hq : q < a.length) (z : Int) (hz : a.getD q 0 = z) : (decide (p ≤ own) || (a.take (q + 1)).any fun z => z == p) = ((decide (p ≤ own) || (a.take q).any fun z => z == p) || (z == p)) := by
  rw [any_take_succ _ _ _ hq, hz, Bool.or_assoc]
theorem met_iff (p own : Int) (a : List Int) : (decide (p ≤ own) || a.any fun z => z == p) = true ↔ (p ≤ own ∨ p ∈ a) := by
  rw [Bool.or_eq_true, decide_eq_true_eq, List.any_eq_true]
  constructor
  · rintro (h | ⟨z, h1, h2⟩)
    · exact .inl h
    · rw [beq_iff_eq] at h2; rw [← h2]; exact .inr h1
  · rintro (h | h)
    · exact .inl h
    · exact .inr ⟨p, h, by simp⟩
theorem own_cell {W : World} {B : Nat} {v : Option Addr} {n c : Nat} {a : List Int} (h : W.ownsRow B 2 1 (.slice v n c) n (i64s a)) (hn : a.length = n) {q : Nat} (hq : q < n) : ∃ b off, v = some ⟨b, off, none⟩ ∧ W.cell? ⟨b, off + q, none⟩ = some (.int .i64 (a.getD q 0)) := by
  obtain ⟨b, off, e, -, hc⟩ := (Rd.own h).at1 hq
  refine ⟨b, off, e, ?_⟩
  rw [hc]
  have h1 : q < a.length := by omega
  simp [i64s, h1]
def KeptP (k n : Nat) (l : List Pl.Rf) (x : Pl.Rf) (w : World) (v i : Value) (wr : World) : Prop := ∃ (j : Nat) (a : List Int), i = .int .i64 j ∧ j ≤ n ∧ KeptR k l x w j a v wr
set_option maxRecDepth 100000 in
set_option maxHeartbeats 2000000 in
theorem rkept_any (k : Nat) (hk : k < 4) (A : Option Addr) (n c : Nat) (l : List Pl.Rf) (x : Pl.Rf) (most : Int) (w : World) (hl : l.length = n) (hn : n ≤ 1000000) (hr : Rd w 5 A n (rfCs l)) (hfit : ∀ x ∈ l, -9223372036854775808 ≤ x.t ∧ x.t ≤ 9223372036854775807) (hx : -9223372036854775808 ≤ x.t ∧ x.t ≤ 9223372036854775807) :
    Calls Try.prog 52 #[.slice A n c, rfV x, .int .i64 (k : Int), .int .i64 most] w (RetB (fun v _ => v = .bool (Pl.keptD l x k most)) w) := by
  have HI := Lib.hid info_i64
  obtain ⟨R, hR⟩ : ∃ R, R = Pl.keptD l x k most := ⟨_, rfl⟩
  rw [← hR]
  obtain ⟨xm, xn, xt, xnm, xtil⟩ := x
  show Calls Try.prog 52 #[.slice A n c, .agg #[.string ⟨xm.toArray⟩, .int .i64 xn, .int .i64 xt, .string ⟨xnm.toArray⟩, .int .i64 xtil], .int .i64 (k : Int), .int .i64 most] w _
  obtain ⟨x, hxe⟩ : ∃ x : Pl.Rf, x = ⟨xm, xn, xt, xnm, xtil⟩ := ⟨_, rfl⟩
  rw [← hxe] at hx hR
  have hxt : x.t = xt := by rw [hxe]
  have hxm : x.m = xm := by rw [hxe]
  have hxc : (rfC x).toArray = #[.string ⟨xm.toArray⟩, .int .i64 xn, .int .i64 xt, .string ⟨xnm.toArray⟩, .int .i64 xtil] := by rw [hxe]; rfl
  have hpx := fun w => rper_any k hk x.t hx.1 hx.2 w
  obtain ⟨own, hown⟩ : ∃ own, own = Pl.per k x.t := ⟨_, rfl⟩
  rw [← hown, hxt] at hpx
  have HH := Lib.hid (And.intro hpx (And.intro hr (And.intro hfit (And.intro hl (And.intro hR (And.intro hxe (And.intro hxm (And.intro hxc hown)))))))); clear hpx hr hfit hl hR hxe hxm hxc hown hxt hx
  go_enter Try.func52, Try.ntmps52
  go_wp2_with fail
  refine (HH.out.1 _).mono ?_
  rintro e w1 ⟨rfl, hb1⟩
  have hx1 : w1.heap[w.heap.size]? = some (.cells (rfC x).toArray 38 (0, 0)) := by rw [HH.out.2.2.2.2.2.2.2.1]; exact (hb1.block _ (by simp)).trans (heap_alloc_new w _)
  have hbw : Below w.heap.size w w1 := ((Below.refl w.heap.size w).alloc (Nat.le_refl _) _).trans (hb1.mono (by simp))
  have hsz := blk_lt hx1
  have hK : KeptR k l x w 0 [] (.slice (some ⟨w1.heap.size, 0, none⟩) 0 0) (w1.alloc (.cells #[] 2)) :=
    ⟨(Below.heap_alloc _ _ _ hsz).trans hx1, World.ownsRow_made w1 #[] 0 (by omega) (by simp [maxLen]) (by simp), hbw.alloc hbw.size _, rfl, Nat.le_refl _, rfl⟩
  clear hb1 hx1 hbw
  go_wp2_with fail
  go_loopw [10, 24] (KeptP k n l x w) (fun _ i _ => n - (intOf i).toNat)
  case atStart => exact ⟨0, [], rfl, by omega, hK⟩
  case round =>
    clear hK
    obtain ⟨j, a, rfl, hj, hR⟩ := hrel
    have hl := HH.out.2.2.2.1
    by_cases hjn : j < n
    · obtain ⟨b, off, rfl, hbw, hrf⟩ := (HH.out.2.1.below hR.bel).rf hl hjn
      obtain ⟨y, hy⟩ : ∃ y, l.getD j default = y := ⟨_, rfl⟩
      have hyf := HH.out.2.2.1 y (by rw [← hy]; exact Pl.getD_mem l j (by omega))
      have hpy := fun w => rper_any k hk y.t hyf.1 hyf.2 w
      obtain ⟨c0, c1, c2, c3, c4⟩ := hrf y hy
      obtain ⟨v, c', hvform⟩ := own_form' hR.own
      subst hvform
      have hxb := hR.box
      rw [HH.out.2.2.2.2.2.2.2.1] at hxb
      have x0 := cell_row wr w.heap.size 0 _ _ hxb
      simp at x0
      have hszr := blk_lt hxb
      obtain ⟨ym, yn, yt, ynm, ytil⟩ := y
      simp only at c0 c1 c2 c3 c4 hpy hyf
      have j0 : (0 : Int) ≤ (j : Int) := by omega
      have j1 : (j : Int) < (n : Int) := by omega
      obtain ⟨p, hp⟩ : ∃ p, p = Pl.per k yt := ⟨_, rfl⟩
      rw [← hp] at hpy
      obtain ⟨q, hq⟩ : ∃ q, (ym == xm) = q := ⟨_, rfl⟩
      have hq' : (ym != xm) = !q := by rw [bne, hq]
      have HY := Lib.hid (And.intro hR (And.intro hy (And.intro hp (And.intro hq (And.intro hxb hl))))); clear hR hy hp hxb hl hrf
      cases q
      · go_wp2_with fail
        obtain ⟨hR, hy, hp, hqq, hxb, hl⟩ := HY.out
        refine ⟨⟨j + 1, a, rfl, by omega, (hR.other (by omega) hy ?_).below ((Below.refl _ _).alloc (Nat.le_refl _) _)⟩, by simp [intOf]; omega⟩
        rw [HH.out.2.2.2.2.2.2.1]
        rw [beq_eq_false_iff_ne] at hqq; exact hqq
      · go_wp2_with fail
        refine (hpy _).mono ?_
        rintro e w2 ⟨rfl, hb2⟩
        have hb2' := ((Below.refl wr.heap.size wr).alloc (Nat.le_refl _) (.cells #[.string ⟨ym.toArray⟩, .int .i64 yn, .int .i64 yt, .string ⟨ynm.toArray⟩, .int .i64 ytil] 38)).trans (hb2.mono (by simp))
        have hyb : w2.heap[wr.heap.size]? = some (.cells #[.string ⟨ym.toArray⟩, .int .i64 yn, .int .i64 yt, .string ⟨ynm.toArray⟩, .int .i64 ytil] 38 (0, 0)) := (hb2.block _ (by simp)).trans (heap_alloc_new wr _)
        have hxb2 := (hb2'.block _ hszr).trans HY.out.2.2.2.2.1
        have x0 : w2.cell? ⟨w.heap.size, 0, none⟩ = some (.string ⟨xm.toArray⟩) := cell_row w2 _ 0 _ _ hxb2
        have x1 : w2.cell? ⟨w.heap.size, 1, none⟩ = some (.int .i64 xn) := cell_row w2 _ 1 _ _ hxb2
        have x2 : w2.cell? ⟨w.heap.size, 2, none⟩ = some (.int .i64 xt) := cell_row w2 _ 2 _ _ hxb2
        have x3 : w2.cell? ⟨w.heap.size, 3, none⟩ = some (.string ⟨xnm.toArray⟩) := cell_row w2 _ 3 _ _ hxb2
        have x4 : w2.cell? ⟨w.heap.size, 4, none⟩ = some (.int .i64 xtil) := cell_row w2 _ 4 _ _ hxb2
        have y0 : w2.cell? ⟨wr.heap.size, 0, none⟩ = some (.string ⟨ym.toArray⟩) := cell_row w2 _ 0 _ _ hyb
        have y1 : w2.cell? ⟨wr.heap.size, 1, none⟩ = some (.int .i64 yn) := cell_row w2 _ 1 _ _ hyb
        have y2 : w2.cell? ⟨wr.heap.size, 2, none⟩ = some (.int .i64 yt) := cell_row w2 _ 2 _ _ hyb
        have y3 : w2.cell? ⟨wr.heap.size, 3, none⟩ = some (.string ⟨ynm.toArray⟩) := cell_row w2 _ 3 _ _ hyb
        have y4 : w2.cell? ⟨wr.heap.size, 4, none⟩ = some (.int .i64 ytil) := cell_row w2 _ 4 _ _ hyb
        have hlat := rlater_any ⟨ym, yn, yt, ynm, ytil⟩ x
        obtain ⟨L, hL⟩ : ∃ L, L = (decide ((⟨ym, yn, yt, ynm, ytil⟩ : Pl.Rf).m = x.m) && Pl.ltr ⟨ym, yn, yt, ynm, ytil⟩ x) := ⟨_, rfl⟩
        rw [← hL] at hlat
        have hxv : rfV x = .agg #[.string ⟨xm.toArray⟩, .int .i64 xn, .int .i64 xt, .string ⟨xnm.toArray⟩, .int .i64 xtil] := by unfold rfV; rw [HH.out.2.2.2.2.2.2.2.1]
        rw [hxv, ← rf_agg] at hlat
        simp only at hlat
        clear hxv
        have hR2 := HY.out.1.below hb2'
        have hmm : ym = xm := beq_iff_eq.1 HY.out.2.2.2.1
        obtain ⟨e, he⟩ : ∃ e, (p == own) = e := ⟨_, rfl⟩
        have HL := Lib.hid (And.intro hlat (And.intro hL (And.intro hR2 (And.intro hmm he)))); clear hlat hL hR2 hmm hyb hxb2 hb2 hb2' hpy
        by_cases hlost : e = true ∧ L = true
        · obtain ⟨rfl, rfl⟩ := hlost
          go_wp2_with fail
          refine (HL.out.1 _).mono ?_
          rintro e w3 ⟨v3, rfl, rfl, hb3⟩
          go_wp2_with fail
          go_ret
          obtain ⟨-, hL, hR2, hmm, hee⟩ := HL.out
          refine ⟨_, rfl, ?_, hR2.bel.trans (hb3.mono hR2.bel.size)⟩
          have hlt : Pl.ltr ⟨ym, yn, yt, ynm, ytil⟩ x = true := by
            rw [decide_eq_true (show (⟨ym, yn, yt, ynm, ytil⟩ : Pl.Rf).m = x.m by rw [HH.out.2.2.2.2.2.2.1]; exact hmm), Bool.true_and] at hL
            exact hL.symm
          have := KeptR.lost (k := k) (by have := HH.out.2.2.2.1; omega) HY.out.2.1 (x := x) (by rw [HH.out.2.2.2.2.2.2.1]; exact hmm) (by
            have h := beq_iff_eq.1 hee
            rw [HH.out.2.2.2.2.2.2.2.2, HY.out.2.2.1] at h; exact h) hlt most
          rw [HH.out.2.2.2.2.1, this]; rfl
        · have hnb : (decide (Pl.per k yt = Pl.per k x.t) && Pl.ltr ⟨ym, yn, yt, ynm, ytil⟩ x) = false := by
            obtain ⟨-, hL, hR2, hmm, hee⟩ := HL.out
            cases e
            · rw [decide_eq_false (fun h => by rw [beq_eq_false_iff_ne] at hee; exact hee (by rw [HH.out.2.2.2.2.2.2.2.2, HY.out.2.2.1]; exact h))]; rfl
            · cases L
              · rw [decide_eq_true (show (⟨ym, yn, yt, ynm, ytil⟩ : Pl.Rf).m = x.m by rw [HH.out.2.2.2.2.2.2.1]; exact hmm), Bool.true_and] at hL
                rw [← hL]; simp
              · exact absurd ⟨rfl, rfl⟩ hlost
          obtain ⟨M, hM⟩ : ∃ M, M = (decide (p ≤ own) || a.any fun z => z == p) := ⟨_, rfl⟩
          have HN := Lib.hid (And.intro hnb hM); clear hnb hM
          have hRz := HL.out.2.2.1
          cases e
          focus
            go_wp2_with fail
            generalize w2 = W at hRz ⊢
            clear x0 x1 x2 x3 x4 y0 y1 y2 y3 y4
          rotate_left
          focus
            have hLf : L = false := by
              cases L
              · rfl
              · exact absurd ⟨rfl, rfl⟩ hlost
            subst hLf
            go_wp2_with fail
            refine (HL.out.1 _).mono ?_
            rintro e w3 ⟨v3, rfl, rfl, hb3⟩
            have hRz := hRz.below hb3
            clear x0 x1 x2 x3 x4 y0 y1 y2 y3 y4
            go_wp2_with fail
            generalize w3 = W at hRz ⊢
          all_goals
            have HW := Lib.hid hRz; clear hRz
            go_loop [14, 50] (MetP p own a) (fun _ i => a.length - (intOf i).toNat)
            case atStart => exact ⟨0, rfl, Nat.zero_le _, by simp⟩
            case round =>
              obtain ⟨q, rfl, hqa, rfl⟩ := hrel
              have hfew := HW.out.few
              by_cases hqn : q < a.length
              · obtain ⟨ab, ao, hve, hcell⟩ := own_cell HW.out.own rfl hqn
                subst hve
                obtain ⟨z, hz⟩ : ∃ z, a.getD q 0 = z := ⟨_, rfl⟩
                rw [hz] at hcell
                have hnx := met_next p own a q hqn z hz
                obtain ⟨B, hB⟩ : ∃ B, B = (decide (p ≤ own) || (a.take q).any fun z => z == p) := ⟨_, rfl⟩
                rw [← hB] at hnx ⊢
                have q0 : (0 : Int) ≤ (q : Int) := by omega
                have q1 : (q : Int) < (a.length : Int) := by omega
                have HB := Lib.hid (And.intro hnx (And.intro hB hz)); clear hnx hB hz
                cases B
                · obtain ⟨d, hd⟩ : ∃ d, (z == p) = d := ⟨_, rfl⟩
                  have HD := Lib.hid hd
                  go_wp2_with fail
                  exact ⟨⟨q + 1, rfl, by omega, by rw [HB.out.1, HD.out]; rfl⟩, by simp [intOf]; omega⟩
                · go_wp2_with fail
                  exact ⟨⟨q + 1, rfl, by omega, by rw [HB.out.1]; rfl⟩, by simp [intOf]; omega⟩
              · obtain rfl : q = a.length := by omega
                rw [List.take_of_length_le (Nat.le_refl _), ← HN.out.2]
                cases M
                · have hsW : w.heap.size + 1 ≤ W.heap.size := blk_lt HW.out.box
                  have hown0 := HW.out.own
                  go_wp2_with (at_builtin; refine push_one rfl (.tmp 63) (.tmp 65) 111 rfl (w.heap.size + 1) 2 (.int .i64 0) 8 Try.underlying111 HI.out rfl _ _ _ _ _ rfl hown0 rfl rfl (by omega) (by omega) hsW ?_; intro v1 w5 hown1 hb1)
                  have hM := HN.out.2
                  have hM2 : ¬ (p ≤ own ∨ p ∈ a) := by rw [← met_iff, ← hM]; simp
                  rw [HY.out.2.2.1, HH.out.2.2.2.2.2.2.2.2] at hM2
                  rw [HY.out.2.2.1] at hown1
                  exact ⟨⟨j + 1, _, rfl, by omega, HW.out.more (by have := HH.out.2.2.2.1; omega) HY.out.2.1 (by rw [HH.out.2.2.2.2.2.2.1]; exact HL.out.2.2.2.1) HN.out.1 hM2 hown1 hb1⟩, by simp [intOf]; omega⟩
                · go_wp2_with fail
                  have hM := HN.out.2
                  rw [eq_comm, met_iff, HY.out.2.2.1, HH.out.2.2.2.2.2.2.2.2] at hM
                  exact ⟨⟨j + 1, a, rfl, by omega, HW.out.same (by have := HH.out.2.2.2.1; omega) HY.out.2.1 (by rw [HH.out.2.2.2.2.2.2.1]; exact HL.out.2.2.2.1) HN.out.1 hM⟩, by simp [intOf]; omega⟩
    · obtain rfl : n = j := by omega
      obtain ⟨v, c', hvform⟩ := own_form' hR.own
      subst hvform
      have HR := Lib.hid (And.intro hR hl); clear hR hl
      go_wp2_with fail
      go_ret
      obtain ⟨hR, hl⟩ := HR.out
      refine ⟨_, rfl, ?_, hR.bel⟩
      have e1 := hR.abv
      have e2 := hR.not
      rw [List.take_of_length_le (by omega)] at e1 e2
      rw [HH.out.2.2.2.2.1]
      unfold Pl.keptD Pl.above
      rw [e1, e2]; rfl
end Go.Proofs.Yteamkiblogbfmaa
