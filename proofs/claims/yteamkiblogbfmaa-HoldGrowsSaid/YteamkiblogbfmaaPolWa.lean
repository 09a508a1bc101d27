/- The walk of the document's Keep. -/
import Derived.Test.YteamkiblogbfmaaPolW9
import Derived.Test.YteamkiblogbfmaaPolW8
namespace Go.Proofs.Yteamkiblogbfmaa
open Go.RowKit
set_option linter.unusedVariables false
set_option linter.unusedSimpArgs false
/-- A row of bools, wherever it lies. -/
def KeepV (n : Nat) (K : List Bool) (v : Value) (w' : World) : Prop := ∃ A c, v = .slice A n c ∧ Rd w' 1 A n (bools K)
theorem KeepOut.v {B n : Nat} {K : List Bool} {v : Value} {w' : World} (h : KeepOut B n K v w') (hK : K.length = n) : KeepV n K v w' := by
  obtain ⟨bk, rfl, hB, hk⟩ := h
  refine ⟨_, _, rfl, by rw [bools_len, hK, Nat.mul_one], fun _ => ⟨bk, 0, rfl, blk_lt hk, fun j hj => ?_⟩⟩
  rw [Nat.zero_add, cell_row w' bk j _ _ hk]; simp
def keepF (p : Pl.Pol) (l : List Pl.Rf) (now : Int) (x : Pl.Rf) : Bool := decide (Pl.polE p ≠ 0) || Pl.keptAny p l x || decide (now < x.til)
theorem keepD_map (p : Pl.Pol) (l : List Pl.Rf) (now : Int) : Pl.keepD p l now = l.map (keepF p l now) := rfl
def anyK (p : Pl.Pol) (l : List Pl.Rf) (x : Pl.Rf) : Nat → Bool
  | 0 => false
  | k + 1 => anyK p l x k || Pl.keptD l x k (p.num k)
theorem keepF_any (p : Pl.Pol) (l : List Pl.Rf) (now : Int) (x : Pl.Rf) : ((decide (Pl.polE p ≠ 0) || decide (now < x.til)) || anyK p l x 4) = keepF p l now x := by
  unfold keepF Pl.keptAny
  show (_ || ((((false || Pl.keptD l x 0 p.d) || Pl.keptD l x 1 p.w) || Pl.keptD l x 2 p.mo) || Pl.keptD l x 3 p.y)) = _
  generalize Pl.keptD l x 0 p.d = a
  generalize Pl.keptD l x 1 p.w = b
  generalize Pl.keptD l x 2 p.mo = c
  generalize Pl.keptD l x 3 p.y = d
  generalize decide (Pl.polE p ≠ 0) = e
  generalize decide (now < x.til) = f
  revert a b c d e f
  decide
structure RkR (p : Pl.Pol) (l : List Pl.Rf) (now : Int) (w : World) (j : Nat) (v : Value) (wr : World) : Prop where
  pol : wr.heap[w.heap.size]? = some (.cells #[.int .i64 p.d, .int .i64 p.w, .int .i64 p.mo, .int .i64 p.y] 25 (0, 0))
  own : wr.ownsRow (w.heap.size + 1) 4 1 v j (bools ((l.take j).map (keepF p l now)))
  bel : Below w.heap.size w wr
theorem RkR.below {p : Pl.Pol} {l : List Pl.Rf} {now : Int} {w : World} {j : Nat} {v : Value} {wr w1 : World} (h : RkR p l now w j v wr) (hb : Below wr.heap.size wr w1) : RkR p l now w j v w1 :=
  ⟨(hb.block _ (blk_lt h.pol)).trans h.pol, own_below h.own hb, h.bel.trans (hb.mono h.bel.size)⟩
theorem RkR.next {p : Pl.Pol} {l : List Pl.Rf} {now : Int} {w : World} {j : Nat} {v v2 : Value} {wr w2 : World} (h : RkR p l now w j v wr) (hj : j < l.length) {y : Pl.Rf} (hy : l.getD j default = y) (hown : w2.ownsRow (w.heap.size + 1) 4 1 v2 (j + 1) (bools ((l.take j).map (keepF p l now)) ++ [.bool (keepF p l now y)])) (hb : Below (w.heap.size + 1) wr w2) : RkR p l now w (j + 1) v2 w2 := by
  refine ⟨(hb.block _ (Nat.lt_succ_self _)).trans h.pol, ?_, h.bel.trans (hb.mono (Nat.le_succ _))⟩
  have e : l.take (j + 1) = l.take j ++ [y] := by
    rw [List.take_succ_eq_append_getElem hj, ← hy, List.getD_eq_getElem?_getD, List.getElem?_eq_getElem hj]; rfl
  rw [e, List.map_append]
  simpa [bools] using hown
def RkP (p : Pl.Pol) (l : List Pl.Rf) (now : Int) (n : Nat) (w : World) (v i : Value) (wr : World) : Prop := ∃ j : Nat, i = .int .i64 j ∧ j ≤ n ∧ RkR p l now w j v wr
def RnP (p : Pl.Pol) (l : List Pl.Rf) (now : Int) (x : Pl.Rf) (w w0 : World) (j : Nat) (v : Value) (m i : Value) (wr : World) : Prop := ∃ k : Nat, i = .int .i64 k ∧ k ≤ 4 ∧ m = .bool ((decide (Pl.polE p ≠ 0) || decide (now < x.til)) || anyK p l x k) ∧ RkR p l now w j v wr ∧ Below w0.heap.size w0 wr
set_option maxRecDepth 100000 in
set_option maxHeartbeats 4000000 in
theorem rkeep_any (p : Pl.Pol) (A : Option Addr) (n c : Nat) (l : List Pl.Rf) (now : Int) (w : World) (hl : l.length = n) (hn : n ≤ 1000000) (hr : Rd w 5 A n (rfCs l)) (hfit : ∀ x ∈ l, -9223372036854775808 ≤ x.t ∧ x.t ≤ 9223372036854775807) :
    Calls Try.prog 41 #[polV p, .slice A n c, .int .i64 now] w (RetB (KeepV n (Pl.keepD p l now)) w) := by
  have HI := Lib.hid info_bool1
  obtain ⟨KD, hKD⟩ : ∃ K, K = Pl.keepD p l now := ⟨_, rfl⟩
  rw [← hKD]
  have hchk := rpcheck_any p
  have hpc : polV p = .agg #[.int .i64 p.d, .int .i64 p.w, .int .i64 p.mo, .int .i64 p.y] := rfl
  obtain ⟨pd, hpd⟩ : ∃ x, x = p.d := ⟨_, rfl⟩
  obtain ⟨pw, hpw⟩ : ∃ x, x = p.w := ⟨_, rfl⟩
  obtain ⟨pm, hpm⟩ : ∃ x, x = p.mo := ⟨_, rfl⟩
  obtain ⟨py, hpy⟩ : ∃ x, x = p.y := ⟨_, rfl⟩
  rw [hpc, ← hpd, ← hpw, ← hpm, ← hpy] at hchk ⊢
  have hnum : ∀ k, k < 4 → ([pd, pw, pm, py] : List Int).getD k 0 = p.num k := by
    intro k hk
    rw [hpd, hpw, hpm, hpy]
    exact nums_num p k hk
  have hpol : (Obj.cells #[.int .i64 pd, .int .i64 pw, .int .i64 pm, .int .i64 py] 25) = Obj.cells #[.int .i64 p.d, .int .i64 p.w, .int .i64 p.mo, .int .i64 p.y] 25 := by rw [hpd, hpw, hpm, hpy]
  have HH := Lib.hid (And.intro hchk (And.intro hnum (And.intro hKD (And.intro hl (And.intro hr (And.intro hfit hpol))))))
  clear hchk hnum hKD hl hpc hpd hpw hpm hpy hr hfit hpol
  go_enter Try.func41, Try.ntmps41
  go_wp2_with fail
  have hK : RkR p l now w 0 (.slice (some ⟨w.heap.size + 1, 0, none⟩) 0 0) ((w.alloc (.cells #[.int .i64 pd, .int .i64 pw, .int .i64 pm, .int .i64 py] 25)).alloc (.cells #[] 4)) := by
    rw [HH.out.2.2.2.2.2.2]
    refine ⟨(Below.heap_alloc _ _ _ (by simp)).trans (heap_alloc_new w _), ?_, ((Below.refl _ _).alloc (Nat.le_refl _) _).alloc (by simp) _⟩
    have := World.ownsRow_made (base := w.heap.size + 1) (e := 4) (size := 1) (w.alloc (.cells #[.int .i64 p.d, .int .i64 p.w, .int .i64 p.mo, .int .i64 p.y] 25)) #[] 0 (by simp) (by simp [maxLen]) (by simp)
    simpa [bools] using this
  go_loopw [7, 16] (RkP p l now n w) (fun _ i _ => n - (intOf i).toNat)
  case atStart => exact ⟨0, rfl, by omega, hK⟩
  case round =>
    clear hK
    obtain ⟨j, rfl, hj, hR⟩ := hrel
    have hl := HH.out.2.2.2.1
    by_cases hjn : j < n
    · obtain ⟨b, off, rfl, hbw, hrf⟩ := (HH.out.2.2.2.2.1.below hR.bel).rf hl hjn
      obtain ⟨y, hy⟩ : ∃ y, l.getD j default = y := ⟨_, rfl⟩
      have hyf := HH.out.2.2.2.2.2.1 y (by rw [← hy]; exact Pl.getD_mem l j (by omega))
      obtain ⟨c0, c1, c2, c3, c4⟩ := hrf y hy
      obtain ⟨v, c', hvform⟩ := own_form' hR.own
      subst hvform
      have hpb := hR.pol
      have hszr := blk_lt hpb
      have hE : Obj.cells #[.int .i64 pd, .int .i64 pw, .int .i64 pm, .int .i64 py] 25 = _ := HH.out.2.2.2.2.2.2
      have hpb2 : wr.heap[w.heap.size]? = some (.cells #[.int .i64 pd, .int .i64 pw, .int .i64 pm, .int .i64 py] 25 (0, 0)) := by
        rw [hpb]
        injection hE with e1 e2
        rw [e1]
      have x0 : wr.cell? ⟨w.heap.size, 0, none⟩ = some (.int .i64 pd) := cell_row wr _ 0 _ _ hpb2
      have x1 : wr.cell? ⟨w.heap.size, 1, none⟩ = some (.int .i64 pw) := cell_row wr _ 1 _ _ hpb2
      have x2 : wr.cell? ⟨w.heap.size, 2, none⟩ = some (.int .i64 pm) := cell_row wr _ 2 _ _ hpb2
      have x3 : wr.cell? ⟨w.heap.size, 3, none⟩ = some (.int .i64 py) := cell_row wr _ 3 _ _ hpb2
      clear hE
      obtain ⟨ym, yn, yt, ynm, ytil⟩ := y
      simp only at c0 c1 c2 c3 c4 hyf
      have j0 : (0 : Int) ≤ (j : Int) := by omega
      have j1 : (j : Int) < (n : Int) := by omega
      have HY := Lib.hid (And.intro hR (And.intro hy (And.intro hpb2 (And.intro hl hyf)))); clear hR hy hl hrf hpb hpb2 hyf
      go_wp2_with fail
      refine (HH.out.1 _).mono ?_
      rintro e w2 ⟨v2, rfl, rfl, hb2⟩
      have hb2' := ((Below.refl wr.heap.size wr).alloc (Nat.le_refl _) (.cells #[.string ⟨ym.toArray⟩, .int .i64 yn, .int .i64 yt, .string ⟨ynm.toArray⟩, .int .i64 ytil] 38)).trans (hb2.mono (by simp))
      have hyb : w2.heap[wr.heap.size]? = some (.cells #[.string ⟨ym.toArray⟩, .int .i64 yn, .int .i64 yt, .string ⟨ynm.toArray⟩, .int .i64 ytil] 38 (0, 0)) := (hb2.block _ (by simp)).trans (heap_alloc_new wr _)
      have hR2 := HY.out.1.below hb2'
      have hpb2 := (hb2'.block _ hszr).trans HY.out.2.2.1
      have x0 : w2.cell? ⟨w.heap.size, 0, none⟩ = some (.int .i64 pd) := cell_row w2 _ 0 _ _ hpb2
      have x1 : w2.cell? ⟨w.heap.size, 1, none⟩ = some (.int .i64 pw) := cell_row w2 _ 1 _ _ hpb2
      have x2 : w2.cell? ⟨w.heap.size, 2, none⟩ = some (.int .i64 pm) := cell_row w2 _ 2 _ _ hpb2
      have x3 : w2.cell? ⟨w.heap.size, 3, none⟩ = some (.int .i64 py) := cell_row w2 _ 3 _ _ hpb2
      have y4 : w2.cell? ⟨wr.heap.size, 4, none⟩ = some (.int .i64 ytil) := cell_row w2 _ 4 _ _ hyb
      have hyl := blk_lt hyb
      obtain ⟨b0, hb0⟩ : ∃ b0, b0 = decide (Pl.polE p ≠ 0) := ⟨_, rfl⟩
      obtain ⟨E, hE⟩ : ∃ E, E = Pl.polE p := ⟨_, rfl⟩
      rw [← hE]
      have hne : ((E : Int) != 0) = b0 := by
        rw [hb0, hE, Bool.eq_iff_iff, bne_iff_ne, decide_eq_true_eq]; omega
      obtain ⟨d0, hd0⟩ : ∃ d0, decide (now < ytil) = d0 := ⟨_, rfl⟩
      have H2 := Lib.hid (And.intro hyb (And.intro hR2 (And.intro hb0 (And.intro hE (And.intro hd0 hb2'))))); clear hyb hR2 hpb2 hb2 hb2' hb0 hE c0 c1 c2 c3 c4
      cases b0
      focus
        go_wp2_with fail
      rotate_left
      focus
        go_wp2_with fail
      all_goals
        obtain ⟨W, hW⟩ : ∃ W, W = w2.alloc (.cells #[.int .i64 pd, .int .i64 pw, .int .i64 pm, .int .i64 py] 3) := ⟨_, rfl⟩
        rw [← hW]
        have hbW : Below w2.heap.size w2 W := by rw [hW]; exact (Below.refl _ _).alloc (Nat.le_refl _) _
        have hsl : W.heap[w2.heap.size]? = some (.cells #[.int .i64 pd, .int .i64 pw, .int .i64 pm, .int .i64 py] 3 (0, 0)) := by rw [hW]; exact heap_alloc_new w2 _
        have hRW := H2.out.2.1.below hbW
        have hsc : ∀ k, k < 4 → W.cell? ⟨w2.heap.size, k, none⟩ = some (.int .i64 (p.num k)) := by
          intro k hk
          rw [cell_row W _ k _ _ hsl, ← HH.out.2.1 k hk]
          match k, hk with
          | 0, _ => rfl
          | 1, _ => rfl
          | 2, _ => rfl
          | 3, _ => rfl
        have hyW := (hbW.block _ hyl).trans H2.out.1
        have hlW := blk_lt hsl
        clear x0 x1 x2 x3 y4
        have HW := Lib.hid (And.intro hsc (And.intro hyW hbW)); clear hsc hyW hbW hsl hW
        go_loopw [10, 39] (RnP p l now ⟨ym, yn, yt, ynm, ytil⟩ w W j (.slice v j c')) (fun _ i _ => 4 - (intOf i).toNat)
        case atStart => exact ⟨0, rfl, by omega, by rw [← H2.out.2.2.1]; simp [anyK, H2.out.2.2.2.2.1], hRW, Below.refl _ _⟩
        case round =>
          clear hRW
          obtain ⟨k, rfl, hk4, rfl, hRk, hbk⟩ := hrel
          by_cases hk : k < 4
          · have k0 : (0 : Int) ≤ (k : Int) := by omega
            have k1 : (k : Int) < 4 := by omega
            have hsc := (hbk.cell (p := ⟨w2.heap.size, k, none⟩) hlW).trans (HW.out.1 k hk)
            have hyk := (hbk.block _ (by omega)).trans HW.out.2.1
            have y0 : wr.cell? ⟨_, 0, none⟩ = some (.string ⟨ym.toArray⟩) := cell_row wr _ 0 _ _ hyk
            have y1 : wr.cell? ⟨_, 1, none⟩ = some (.int .i64 yn) := cell_row wr _ 1 _ _ hyk
            have y2 : wr.cell? ⟨_, 2, none⟩ = some (.int .i64 yt) := cell_row wr _ 2 _ _ hyk
            have y3 : wr.cell? ⟨_, 3, none⟩ = some (.string ⟨ynm.toArray⟩) := cell_row wr _ 3 _ _ hyk
            have y4 : wr.cell? ⟨_, 4, none⟩ = some (.int .i64 ytil) := cell_row wr _ 4 _ _ hyk
            obtain ⟨B, hB⟩ : ∃ B, B = ((decide (Pl.polE p ≠ 0) || decide (now < (⟨ym, yn, yt, ynm, ytil⟩ : Pl.Rf).til)) || anyK p l ⟨ym, yn, yt, ynm, ytil⟩ k) := ⟨_, rfl⟩
            rw [← hB]
            have HK := Lib.hid (And.intro hB (And.intro hRk hbk)); clear hB hRk hbk hyk
            cases B
            · have hkc := rkept_any k hk (some ⟨b, off, none⟩) n c l ⟨ym, yn, yt, ynm, ytil⟩ (p.num k) wr HH.out.2.2.2.1 hn (HH.out.2.2.2.2.1.below HK.out.2.1.bel) HH.out.2.2.2.2.2.1 HY.out.2.2.2.2
              rw [← rf_agg] at hkc
              simp only at hkc
              have HKC := Lib.hid hkc; clear hkc
              go_wp2_with fail
              refine HKC.out.mono ?_
              rintro e w6 ⟨v6, rfl, rfl, hb6⟩
              go_wp2_with fail
              refine ⟨⟨k + 1, rfl, by omega, ?_, HK.out.2.1.below hb6, HK.out.2.2.trans (hb6.mono HK.out.2.2.size)⟩, by simp [intOf]; omega⟩
              have := HK.out.1
              show _ = Value.bool (_ || (anyK p l _ k || _))
              rw [← Bool.or_assoc, ← this, Bool.false_or]
            · go_wp2_with fail
              refine ⟨⟨k + 1, rfl, by omega, ?_, HK.out.2.1, HK.out.2.2⟩, by simp [intOf]; omega⟩
              have := HK.out.1
              show _ = Value.bool (_ || (anyK p l _ k || _))
              rw [← Bool.or_assoc, ← this, Bool.true_or]
          · obtain rfl : k = 4 := by omega
            rw [keepF_any]
            have hsW : w.heap.size + 1 ≤ wr.heap.size := blk_lt hRk.pol
            have hown0 := hRk.own
            have HK := Lib.hid hRk; clear hRk
            go_wp2_with (at_builtin; refine push_one rfl (.tmp 53) (.tmp 55) 50 rfl (w.heap.size + 1) 4 (.bool false) 1 Try.underlying50 HI.out rfl _ _ _ _ _ rfl hown0 rfl rfl (by omega) (by omega) hsW ?_; intro v1 w5 hown1 hb1)
            exact ⟨⟨j + 1, rfl, by omega, HK.out.next (by have := HY.out.2.2.2.1; omega) HY.out.2.1 hown1 hb1⟩, by simp [intOf]; omega⟩
    · obtain rfl : n = j := by omega
      obtain ⟨v, c', hvform⟩ := own_form' hR.own
      subst hvform
      have HR := Lib.hid (And.intro hR hl); clear hR hl
      go_wp2_with fail
      go_ret
      obtain ⟨hR, hl⟩ := HR.out
      refine ⟨_, rfl, ⟨v, c', rfl, ?_⟩, hR.bel⟩
      have := Rd.own hR.own
      rw [List.take_of_length_le (by omega)] at this
      rw [HH.out.2.2.1, keepD_map]
      exact this
end Go.Proofs.Yteamkiblogbfmaa
