/- The walk of policy.mark. -/
import Derived.Test.YtmncgnmgdkdhaaaGreatDoorPolMem
import Derived.Test.YtmncgnmgdkdhaaaGreatDoorPolOrd
import Derived.Test.YtmncgnmgdkdhaaaGreatDoorSetI
import Derived.Test.YtmncgnmgdkdhaaaGreatDoorDayW5
import Derived.LoopTactic
import Derived.Deep.Cut
import Derived.StillTailTactics
import Derived.BigQuiet
import Derived.Deep.QuietTactic
namespace Go.Proofs.YtmncgnmgdkdhaaaGreatDoor
open Go.RowKit
set_option linter.unusedVariables false
set_option linter.unusedSimpArgs false
def bools (K : List Bool) : List Value := K.map Value.bool
theorem bools_len (K : List Bool) : (bools K).length = K.length := by simp [bools]
theorem bools_get (K : List Bool) (i : Nat) (h : i < K.length) : (bools K).toArray[i]? = some (.bool (K.getD i false)) := by
  simp [bools, h]
theorem bools_set (K : List Bool) (i : Nat) (b : Bool) : (bools K).toArray.setIfInBounds i (.bool b) = (bools (K.set i b)).toArray := by
  rw [List.setIfInBounds_toArray]; simp [bools, List.map_set]
theorem grown_set {w w1 : World} {bk : Nat} (h : w.grownBy w1 (some bk)) {c : Nat} (hc : c = bk ∨ w.heap.size ≤ c) (i : Nat) (v : Value) : w.grownBy (w1.setCell ⟨c, i, none⟩ v) (some bk) := by
  refine ⟨h.os, h.tape, h.output, by rw [World.size_setCell]; exact h.size, fun k hk hne => ?_⟩
  have hkc : k ≠ c := by
    rcases hc with rfl | hc
    · rintro rfl; exact hne rfl
    · omega
  rw [← h.block k hk hne]
  simp [World.setCell, Array.getElem?_modify, Ne.symm hkc]
theorem grown_below {w w1 w2 : World} {bk : Nat} (h : w.grownBy w1 (some bk)) (hb : Below w1.heap.size w1 w2) : w.grownBy w2 (some bk) :=
  h.trans ⟨hb.os, hb.tape, hb.output, hb.size, fun k hk _ => hb.block k hk⟩
theorem grown_new {w w1 w2 : World} {bk c : Nat} (h : w.grownBy w1 (some bk)) (hc : w.heap.size ≤ c) (hg : w1.grownBy w2 (some c)) : w.grownBy w2 (some bk) :=
  ⟨hg.os.trans h.os, hg.tape.trans h.tape, hg.output.trans h.output, Nat.le_trans h.size hg.size, fun k hk hne => (hg.block k (Nat.lt_of_lt_of_le hk h.size) (by rintro ⟨⟩; omega)).trans (h.block k hk hne)⟩
theorem Rd.grown {w w1 : World} {k n b off bk : Nat} {xs : List Value} (h : Rd w k (some ⟨b, off, none⟩) n xs) (hg : w.grownBy w1 (some bk)) (hne : b ≠ bk) : Rd w1 k (some ⟨b, off, none⟩) n xs := by
  refine ⟨h.1, fun hn => ?_⟩
  obtain ⟨b', off', e, hb', hc⟩ := h.2 hn
  injection e with e
  injection e with e1 e2
  subst e1 e2
  exact ⟨b, off, rfl, Nat.lt_of_lt_of_le hb' hg.size, fun j hj => (hg.cell_far ⟨b, off + j, none⟩ hb' (by simp [hne])).trans (hc j hj)⟩
structure MarkR (k n bk : Nat) (l : List Pl.Rf) (g : List Nat) (nn : Int) (F : List Bool) (w : World) (j : Nat) (met : List Int) (la : Pl.Rf) (K : List Bool) (wr : World) : Prop where
  hj : j ≤ g.length
  set : SetI wr w.heap.size met
  lat : wr.heap[w.heap.size + 1]? = some (.cells (rfC la).toArray 39 (0, 0))
  kept : wr.heap[bk]? = some (.cells (bools K).toArray 4 (0, 0))
  len : K.length = n
  gr : w.grownBy wr (some bk)
  few : met.length ≤ j
  go : Pl.markF k l nn (g.drop j) met (la.t, la.n) K = F
theorem MarkR.below {k n bk : Nat} {l : List Pl.Rf} {g : List Nat} {nn : Int} {F : List Bool} {w : World} {j : Nat} {met : List Int} {la : Pl.Rf} {K : List Bool} {wr w1 : World} (h : MarkR k n bk l g nn F w j met la K wr) (hb : Below wr.heap.size wr w1) : MarkR k n bk l g nn F w j met la K w1 :=
  ⟨h.hj, h.set.kept hb, (hb.block _ (blk_lt h.lat)).trans h.lat, (hb.block _ (blk_lt h.kept)).trans h.kept, h.len, grown_below h.gr hb, h.few, h.go⟩
theorem markF_cons (k : Nat) (l : List Pl.Rf) (n : Int) (g : List Nat) (j : Nat) (hj : j < g.length) (met : List Int) (lat : Int × Int) (K : List Bool) (i : Nat) (hi : g.getD j 0 = i) (y : Pl.Rf) (hy : l.getD i default = y) : Pl.markF k l n (g.drop j) met lat K =
    if Pl.per k y.t ∈ met then Pl.markF k l n (g.drop (j + 1)) met lat (K.set i (K.getD i false || (decide (y.t = lat.1) && decide (y.n = lat.2))))
    else if n ≤ met.length then K
    else Pl.markF k l n (g.drop (j + 1)) (Pl.per k y.t :: met) (y.t, y.n) (K.set i true) := by
  have e : g.drop j = i :: g.drop (j + 1) := by
    rw [List.drop_eq_getElem_cons hj, ← hi, List.getD_eq_getElem?_getD, List.getElem?_eq_getElem hj]; rfl
  rw [e, ← hy]; rfl
theorem MarkR.met1 {k n bk : Nat} {l : List Pl.Rf} {g : List Nat} {nn : Int} {F : List Bool} {w : World} {j : Nat} {met : List Int} {la : Pl.Rf} {K : List Bool} {wr : World} (h : MarkR k n bk l g nn F w j met la K wr) (hbk : bk < w.heap.size) (hj : j < g.length) {i : Nat} (hi : g.getD j 0 = i) {y : Pl.Rf} (hy : l.getD i default = y) (hx : Pl.per k y.t ∈ met) {b : Bool} (hb : (K.getD i false || (decide (y.t = la.t) && decide (y.n = la.n))) = b) :
    MarkR k n bk l g nn F w (j + 1) met la (K.set i b) (wr.setCell ⟨bk, i, none⟩ (.bool b)) := by
  refine ⟨hj, h.set.grown (grown_set (World.grownBy.refl _ _) (.inl rfl) _ _) (by omega), ?_, ?_, by rw [List.length_set]; exact h.len, grown_set h.gr (.inl rfl) _ _, by have := h.few; omega, ?_⟩
  · rw [← h.lat]; simp [World.setCell, Array.getElem?_modify]; intro e; omega
  · rw [set_at _ _ _ _ _ _ h.kept, bools_set]
  · have := h.go
    rw [markF_cons k l nn g j hj met _ K i hi y hy, if_pos hx] at this
    rw [← this, ← hb]
theorem dec_beq (a b : Int) : decide (a = b) = (a == b) := by rw [Bool.eq_iff_iff]; simp
def MarkP (k n bk : Nat) (l : List Pl.Rf) (g : List Nat) (nn : Int) (F : List Bool) (w : World) (i : Value) (wr : World) : Prop := ∃ (j : Nat) (met : List Int) (la : Pl.Rf) (K : List Bool), i = .int .i64 j ∧ MarkR k n bk l g nn F w j met la K wr
theorem heap_setCells_other (b : Nat) : ∀ (vs : List Value) (o : Nat) (w : World) (q : Nat), q ≠ b → (w.setCells b o vs).heap[q]? = w.heap[q]?
  | [], _, _, _, _ => rfl
  | v :: r, o, w, q, h => by
    show (World.setCells (w.setCell ⟨b, o, none⟩ v) b (o + 1) r).heap[q]? = _
    rw [heap_setCells_other b r (o + 1) _ q h]
    simp [World.setCell, Array.getElem?_modify, Ne.symm h]
theorem MarkR.fresh {k n bk : Nat} {l : List Pl.Rf} {g : List Nat} {nn : Int} {F : List Bool} {w : World} {j : Nat} {met : List Int} {la : Pl.Rf} {K : List Bool} {wr w2 : World} (h : MarkR k n bk l g nn F w j met la K wr) (hbk : bk < w.heap.size) (hj : j < g.length) {i : Nat} (hi : g.getD j 0 = i) {y : Pl.Rf} (hy : l.getD i default = y) (hx : Pl.per k y.t ∉ met) (hnn : ¬ nn ≤ met.length)
    (hs : SetI w2 w.heap.size (Pl.per k y.t :: met)) (hg : wr.grownBy w2 (some w.heap.size)) :
    MarkR k n bk l g nn F w (j + 1) (Pl.per k y.t :: met) y (K.set i true) ((w2.setCell ⟨bk, i, none⟩ (.bool true)).setCells (w.heap.size + 1) 0 (rfC y)) := by
  have hsz := h.gr.size
  have hlb := blk_lt h.lat
  have e1 : w2.heap[w.heap.size + 1]? = some (.cells (rfC la).toArray 39 (0, 0)) := (hg.block _ hlb (by simp)).trans h.lat
  have e2 : w2.heap[bk]? = some (.cells (bools K).toArray 4 (0, 0)) := (hg.block _ (by omega) (by simp; omega)).trans h.kept
  have e3 : (w2.setCell ⟨bk, i, none⟩ (.bool true)).heap[w.heap.size + 1]? = some (.cells (rfC la).toArray 39 (0, 0)) := by
    rw [← e1]; simp [World.setCell, Array.getElem?_modify]; intro e; omega
  have hbelow : Below (w.heap.size + 1) (w2.setCell ⟨bk, i, none⟩ (.bool true)) ((w2.setCell ⟨bk, i, none⟩ (.bool true)).setCells (w.heap.size + 1) 0 (rfC y)) := Lib.below_setCells_w (Nat.le_refl _) _ _ _
  have hgr2 : (w2.setCell ⟨bk, i, none⟩ (.bool true)).grownBy ((w2.setCell ⟨bk, i, none⟩ (.bool true)).setCells (w.heap.size + 1) 0 (rfC y)) (some (w.heap.size + 1)) := by
    refine ⟨hbelow.os, hbelow.tape, hbelow.output, hbelow.size, fun q hq hne => ?_⟩
    exact heap_setCells_other _ _ _ _ _ (by rintro rfl; exact hne rfl)
  refine ⟨hj, (hs.grown (grown_set (World.grownBy.refl _ _) (.inl rfl) _ _) (by omega)).grown hgr2 (by omega), ?_, ?_, by rw [List.length_set]; exact h.len, ?_, by simp only [List.length_cons]; have := h.few; omega, ?_⟩
  · exact heap_setCells_all e3 (by simp [rfC])
  · rw [hbelow.block _ (by omega), set_at _ _ _ _ _ _ e2, bools_set]
  · exact grown_new (grown_set (grown_new h.gr (Nat.le_refl _) hg) (.inl rfl) _ _) (by omega) hgr2
  · have := h.go
    rw [markF_cons k l nn g j hj met _ K i hi y hy, if_neg hx, if_neg hnn] at this
    exact this
theorem per_in (k : Nat) {a : Int} (h0 : -9223372036854775808 ≤ a) (h1 : a ≤ 9223372036854775807) : -9223372036854775808 ≤ Pl.per k a ∧ Pl.per k a ≤ 9223372036854775807 := by
  have hd := dayN_in a h0 h1
  obtain ⟨y, m, r, h⟩ := Pl.ex_date (Pl.dayN a)
  have hy := isDate_y h hd.1 hd.2
  have hm := h.2.2.2
  unfold Pl.per
  split
  · omega
  · unfold Pl.weekN; omega
  · rw [h.monthD]; omega
  · rw [h.yearD]; omega
set_option maxRecDepth 100000 in
set_option maxHeartbeats 1000000 in
theorem mark_any (k gf : Nat) (eg : ∀ args w, (callFunc gf args).run Tryz.prog w = .ok (.enter gf args) w) (hp : ∀ (a : Int) (w : World), -9223372036854775808 ≤ a → a ≤ 9223372036854775807 → Calls Tryz.prog gf #[.int .i64 a] w (fun e w' => e = .returned (.int .i64 (Pl.per k a)) ∧ Below w.heap.size w w'))
    (n bk cK b off c ob oo co : Nat) (l : List Pl.Rf) (g : List Nat) (nn : Int) (K : List Bool) (w : World) (hl : l.length = n) (hn : n ≤ 1000000) (hfit : ∀ x ∈ l, -9223372036854775808 ≤ x.t ∧ x.t ≤ 9223372036854775807)
    (hr : Rd w 5 (some ⟨b, off, none⟩) n (rfCs l)) (hb : b ≠ bk) (hbk : bk < w.heap.size) (hob : ob ≠ bk) (hobw : ob < w.heap.size) (hord : ∀ q, q < g.length → w.cell? ⟨ob, oo + q, none⟩ = some (.int .i64 ((g.getD q 0 : Nat) : Int))) (hgn : ∀ i ∈ g, i < n) (hgl : g.length ≤ 1000000)
    (hK : w.heap[bk]? = some (.cells (bools K).toArray 4 (0, 0))) (hKl : K.length = n) :
    Calls Tryz.prog 35 #[.slice (some ⟨bk, 0, none⟩) n cK, .slice (some ⟨b, off, none⟩) n c, .slice (some ⟨ob, oo, none⟩) g.length co, .int .i64 nn, .func (.func gf) #[] #[]] w
      (fun e w' => e = .returned (.tuple #[]) ∧ w.grownBy w' (some bk) ∧ w'.heap[bk]? = some (.cells (bools (Pl.markF k l nn g [] (0, 0) K)).toArray 4 (0, 0))) := by
  obtain ⟨F, hF⟩ : ∃ F, F = Pl.markF k l nn g [] (0, 0) K := ⟨_, rfl⟩
  rw [← hF]
  obtain ⟨m, hm⟩ : ∃ m, m = g.length := ⟨_, rfl⟩
  rw [← hm] at hord hgl ⊢
  have HH := Lib.hid (And.intro hord (And.intro hr (And.intro hfit (And.intro hgn (And.intro hF (And.intro hm hl)))))); clear hord hr hfit hgn hF hm hl
  have hmm := @run_makeMap Tryz.prog
  go_enter Tryz.func35, Tryz.ntmps35
  go_wp2_with fail
  obtain ⟨V, hV⟩ : ∃ V, (w.alloc (.map #[] 0)).alloc (.cells #[.string ⟨#[]⟩, .int .i64 0, .int .i64 0, .string ⟨#[]⟩, .int .i64 0] 39) = V := ⟨_, rfl⟩
  have hM : MarkR k n bk l g nn F w 0 [] ⟨[], 0, 0, [], 0⟩ K V := by
    rw [← hV]
    have hg1 : w.grownBy (w.alloc (.map #[] 0)) (some bk) := World.grownBy_alloc _ _ _
    have hg2 := hg1.trans (World.grownBy_alloc (w.alloc (.map #[] 0)) (.cells #[.string ⟨#[]⟩, .int .i64 0, .int .i64 0, .string ⟨#[]⟩, .int .i64 0] 39) (some bk))
    refine ⟨by omega, (SetI.made w).kept ((Below.refl _ _).alloc (Nat.le_refl _) _), heap_alloc_2 w _ _, ?_, hKl, hg2, by simp, HH.out.2.2.2.2.1.symm⟩
    rw [← hK]
    exact (Below.heap_alloc _ _ _ (by simp; omega)).trans (Below.heap_alloc _ _ _ hbk)
  rw [hV]
  clear hV
  go_loopw [18] (MarkP k n bk l g nn F w) (fun i _ => m - (intOf i).toNat)
  case atStart => exact ⟨0, [], _, K, rfl, hM⟩
  case round =>
    obtain ⟨j, met, la, Kc, rfl, hR⟩ := hrel
    clear hM
    obtain ⟨hord, hrd, hfit, hgn, hF, hm, hl⟩ := HH.out
    by_cases hjm : j < m
    · have hcell := (hR.gr.cell_far ⟨ob, oo + j, none⟩ hobw (by simp [hob])).trans (hord j hjm)
      obtain ⟨i, hi⟩ : ∃ i, g.getD j 0 = i := ⟨_, rfl⟩
      rw [hi] at hcell
      have hin : i < n := hgn i (by rw [← hi, List.getD_eq_getElem?_getD, List.getElem?_eq_getElem (by omega)]; exact List.getElem_mem _)
      have hbw0 : b < w.heap.size := by
        obtain ⟨b', off', e, h, _⟩ := hrd.2 (by omega)
        injection e with e
        injection e with e1 e2
        rw [e1]; exact h
      obtain ⟨b', off', e', hbw, hrf⟩ := (hrd.grown hR.gr hb).rf hl hin
      injection e' with e'
      injection e' with e1 e2
      subst e1 e2
      obtain ⟨y, hy⟩ : ∃ y, l.getD i default = y := ⟨_, rfl⟩
      have hft := hfit y (by rw [← hy]; exact Pl.getD_mem l i (by omega))
      obtain ⟨c0, c1, c2, c3, c4⟩ := hrf y hy
      have hx := per_in k hft.1 hft.2
      have hp2 := fun w => hp y.t w hft.1 hft.2
      obtain ⟨x, hxx⟩ : ∃ x, x = Pl.per k y.t := ⟨_, rfl⟩
      rw [← hxx] at hp2 hx
      obtain ⟨ym, yn, yt, ynm, ytil⟩ := y
      simp only at c0 c1 c2 c3 c4
      have i0 : (0 : Int) ≤ (i : Int) := by omega
      have i1 : (i : Int) < (n : Int) := by omega
      have HI := Lib.hid (And.intro hi (And.intro hy (And.intro hxx (And.intro hm (And.intro c0 (And.intro c1 (And.intro c3 c4))))))); clear hi hy hxx hm c0 c1 c3 c4 hrf hord hrd hfit hgn hF hl
      go_wp2_with fail
      refine (hp2 _).mono ?_
      rintro e w1 ⟨rfl, hb1⟩
      clear hp2
      have hR1 := hR.below hb1
      have c0' := (hb1.cell (p := ⟨b, off + i * 5, none⟩) hbw).trans HI.out.2.2.2.2.1
      have c1' := (hb1.cell (p := ⟨b, off + i * 5 + 1, none⟩) hbw).trans HI.out.2.2.2.2.2.1
      have c2' := (hb1.cell (p := ⟨b, off + i * 5 + 2, none⟩) hbw).trans c2
      have c3' := (hb1.cell (p := ⟨b, off + i * 5 + 3, none⟩) hbw).trans HI.out.2.2.2.2.2.2.1
      have c4' := (hb1.cell (p := ⟨b, off + i * 5 + 4, none⟩) hbw).trans HI.out.2.2.2.2.2.2.2
      have hlook := hR1.set.look hx.1 hx.2
      have hlen := hR1.set.len
      have HR := Lib.hid (And.intro hR (And.intro hR1 (And.intro c0' (And.intro c1' (And.intro c3' c4'))))); clear hR hR1 c0' c1' c3' c4' c2 hb1
      by_cases hxm : x ∈ met
      · rw [decide_eq_true hxm] at hlook
        have hk := cell_row w1 bk i _ _ HR.out.2.1.kept
        rw [bools_get _ _ (by rw [HR.out.2.1.len]; exact hin)] at hk
        have hfk := frozen_of w1 bk i _ _ HR.out.2.1.kept
        have hl1 := cell_row w1 (w.heap.size + 1) 1 _ _ HR.out.2.1.lat
        have hl2 := cell_row w1 (w.heap.size + 1) 2 _ _ HR.out.2.1.lat
        have hl1' : w1.cell? ⟨w.heap.size + 1, 1, none⟩ = some (.int .i64 la.n) := hl1
        have hl2' : w1.cell? ⟨w.heap.size + 1, 2, none⟩ = some (.int .i64 la.t) := hl2
        have c1' := HR.out.2.2.2.1
        obtain ⟨B, hB⟩ : ∃ B, Kc.getD i false = B := ⟨_, rfl⟩
        rw [hB] at hk
        obtain ⟨lam, lan, lat, lanm, latil⟩ := la
        simp only at hl1' hl2'
        obtain ⟨q2, hq2⟩ : ∃ q, (yt == lat) = q := ⟨_, rfl⟩
        obtain ⟨q1, hq1⟩ : ∃ q, (yn == lan) = q := ⟨_, rfl⟩
        have HM := Lib.hid (And.intro hxm (And.intro hB (And.intro hq2 hq1))); clear hxm hB hl1 hl2 hlen
        cases B
        · cases q2
          · go_wp2_with fail
            refine wp_region_held_drew (S := (fun w' => w'.cell? ⟨b, off + i * 5 + 1, none⟩ = some (.int .i64 yn) ∧ w'.cell? ⟨b, off + i * 5 + 2, none⟩ = some (.int .i64 yt) ∧ w'.cell? ⟨w.heap.size + 1, 1, none⟩ = some (.int .i64 lan) ∧ w'.cell? ⟨w.heap.size + 1, 2, none⟩ = some (.int .i64 lat))) (by kernel_rfl) (by exact ⟨c1', c2', hl1', hl2'⟩) (fun hHeld => ?_)
            refine wpAnyH_take (i := 0) (v := ?_) rfl (by kernel_rfl) (by kernel_rfl) (by kernel_rfl) (fun _ _ _ h => h) (Or.inl ⟨by kernel_rfl, ?_⟩) hHeld ?_
            rotate_left
            · (intro w' hSw; obtain ⟨hS0, hS1, hS2, hS3⟩ := hSw; go_simp; try with_reducible rfl)
            simp only [Act.put, List.setIfInBounds_toArray, List.set_cons_zero, List.set_cons_succ, List.getElem_toArray, List.getElem_cons_succ, List.getElem_cons_zero]
            refine wpAnyH_take (i := 1) (v := ?_) rfl (by kernel_rfl) (by kernel_rfl) (by kernel_rfl) (fun _ _ _ h => h) (Or.inl ⟨by kernel_rfl, ?_⟩) hHeld ?_
            rotate_left
            · (intro w' hSw; obtain ⟨hS0, hS1, hS2, hS3⟩ := hSw; go_simp; try with_reducible rfl)
            simp only [Act.put, List.setIfInBounds_toArray, List.set_cons_zero, List.set_cons_succ, List.getElem_toArray, List.getElem_cons_succ, List.getElem_cons_zero]
            refine wpAnyH_take (i := 2) (v := ?_) rfl (by kernel_rfl) (by kernel_rfl) (by kernel_rfl) (fun _ _ _ h => h) (Or.inl ⟨by kernel_rfl, ?_⟩) hHeld ?_
            rotate_left
            · (intro w' hSw; obtain ⟨hS0, hS1, hS2, hS3⟩ := hSw; go_simp; try with_reducible rfl)
            simp only [Act.put, List.setIfInBounds_toArray, List.set_cons_zero, List.set_cons_succ, List.getElem_toArray, List.getElem_cons_succ, List.getElem_cons_zero]
            refine wpAnyH_take (i := 3) (v := ?_) rfl (by kernel_rfl) (by kernel_rfl) (by kernel_rfl) (fun _ _ _ h => h) (Or.inl ⟨by kernel_rfl, ?_⟩) hHeld ?_
            rotate_left
            · (intro w' hSw; obtain ⟨hS0, hS1, hS2, hS3⟩ := hSw; go_simp; try with_reducible rfl)
            simp only [Act.put, List.setIfInBounds_toArray, List.set_cons_zero, List.set_cons_succ, List.getElem_toArray, List.getElem_cons_succ, List.getElem_cons_zero]
            refine wpAnyH_take (i := 4) (v := ?_) rfl (by kernel_rfl) (by kernel_rfl) (by kernel_rfl) (fun _ _ _ h => h) (Or.inl ⟨by kernel_rfl, ?_⟩) hHeld ?_
            rotate_left
            · (intro w' hSw; obtain ⟨hS0, hS1, hS2, hS3⟩ := hSw; go_simp; try with_reducible rfl)
            simp only [Act.put, List.setIfInBounds_toArray, List.set_cons_zero, List.set_cons_succ, List.getElem_toArray, List.getElem_cons_succ, List.getElem_cons_zero]
            refine wpAnyH_ready (rs := [5]) (by kernel_rfl) (by simp) (AllReadyH.cons rfl (fun K hK => ?_) AllReadyH.nil)
            go_simp
            refine hK.out _ _ hHeld (fun hHeld => ?_)
            clear hK K
            (try simp only [Act.put, List.setIfInBounds_toArray, List.set_cons_zero, List.set_cons_succ, List.getElem_toArray, List.getElem_cons_succ, List.getElem_cons_zero])
            refine wpAnyH_take (i := 6) (v := ?_) rfl (by kernel_rfl) (by kernel_rfl) (by kernel_rfl) (fun _ _ _ h => h) (Or.inl ⟨by kernel_rfl, ?_⟩) hHeld ?_
            rotate_left
            · (intro w' hSw; obtain ⟨hS0, hS1, hS2, hS3⟩ := hSw; go_simp; try with_reducible rfl)
            simp only [Act.put, List.setIfInBounds_toArray, List.set_cons_zero, List.set_cons_succ, List.getElem_toArray, List.getElem_cons_succ, List.getElem_cons_zero]
            refine wpAnyH_take (i := 7) (v := ?_) rfl (by kernel_rfl) (by kernel_rfl) (by kernel_rfl) (fun _ _ _ h => h) (Or.inl ⟨by kernel_rfl, ?_⟩) hHeld ?_
            rotate_left
            · (intro w' hSw; obtain ⟨hS0, hS1, hS2, hS3⟩ := hSw; go_simp; try with_reducible rfl)
            simp only [Act.put, List.setIfInBounds_toArray, List.set_cons_zero, List.set_cons_succ, List.getElem_toArray, List.getElem_cons_succ, List.getElem_cons_zero]
            refine wpAnyH_take (i := 8) (v := ?_) rfl (by kernel_rfl) (by kernel_rfl) (by kernel_rfl) (fun _ _ _ h => h) (Or.inl ⟨by kernel_rfl, ?_⟩) hHeld ?_
            rotate_left
            · (intro w' hSw; obtain ⟨hS0, hS1, hS2, hS3⟩ := hSw; go_simp; try with_reducible rfl)
            simp only [Act.put, List.setIfInBounds_toArray, List.set_cons_zero, List.set_cons_succ, List.getElem_toArray, List.getElem_cons_succ, List.getElem_cons_zero]
            refine wpAnyH_take (i := 9) (v := ?_) rfl (by kernel_rfl) (by kernel_rfl) (by kernel_rfl) (fun _ _ _ h => h) (Or.inl ⟨by kernel_rfl, ?_⟩) hHeld ?_
            rotate_left
            · (intro w' hSw; obtain ⟨hS0, hS1, hS2, hS3⟩ := hSw; go_simp; try with_reducible rfl)
            simp only [Act.put, List.setIfInBounds_toArray, List.set_cons_zero, List.set_cons_succ, List.getElem_toArray, List.getElem_cons_succ, List.getElem_cons_zero]
            refine wpAnyH_take (i := 10) (v := ?_) rfl (by kernel_rfl) (by kernel_rfl) (by kernel_rfl) (fun _ _ _ h => h) (Or.inl ⟨by kernel_rfl, ?_⟩) hHeld ?_
            rotate_left
            · (intro w' hSw; obtain ⟨hS0, hS1, hS2, hS3⟩ := hSw; go_simp; try with_reducible rfl)
            simp only [Act.put, List.setIfInBounds_toArray, List.set_cons_zero, List.set_cons_succ, List.getElem_toArray, List.getElem_cons_succ, List.getElem_cons_zero]
            refine wpAnyH_take (i := 11) (v := ?_) rfl (by kernel_rfl) (by kernel_rfl) (by kernel_rfl) (fun _ _ _ h => h) (Or.inl ⟨by kernel_rfl, ?_⟩) hHeld ?_
            rotate_left
            · (intro w' hSw; obtain ⟨hS0, hS1, hS2, hS3⟩ := hSw; go_simp; try with_reducible rfl)
            simp only [Act.put, List.setIfInBounds_toArray, List.set_cons_zero, List.set_cons_succ, List.getElem_toArray, List.getElem_cons_succ, List.getElem_cons_zero]
            refine wpAnyH_take (i := 12) (v := ?_) rfl (by kernel_rfl) (by kernel_rfl) (by kernel_rfl) (fun _ _ _ h => h) (Or.inl ⟨by kernel_rfl, ?_⟩) hHeld ?_
            rotate_left
            · (intro w' hSw; obtain ⟨hS0, hS1, hS2, hS3⟩ := hSw; go_simp; try with_reducible rfl)
            simp only [Act.put, List.setIfInBounds_toArray, List.set_cons_zero, List.set_cons_succ, List.getElem_toArray, List.getElem_cons_succ, List.getElem_cons_zero]
            refine wpAnyH_take (i := 13) (v := ?_) rfl (by kernel_rfl) (by kernel_rfl) (by kernel_rfl) (fun _ _ _ h => h) (Or.inl ⟨by kernel_rfl, ?_⟩) hHeld ?_
            rotate_left
            · (intro w' hSw; obtain ⟨hS0, hS1, hS2, hS3⟩ := hSw; go_simp; try with_reducible rfl)
            simp only [Act.put, List.setIfInBounds_toArray, List.set_cons_zero, List.set_cons_succ, List.getElem_toArray, List.getElem_cons_succ, List.getElem_cons_zero]
            refine wpAnyH_take (i := 14) (v := ?_) rfl (by kernel_rfl) (by kernel_rfl) (by kernel_rfl) (fun _ _ _ h => h) (Or.inl ⟨by kernel_rfl, ?_⟩) hHeld ?_
            rotate_left
            · (intro w' hSw; obtain ⟨hS0, hS1, hS2, hS3⟩ := hSw; go_simp; try with_reducible rfl)
            simp only [Act.put, List.setIfInBounds_toArray, List.set_cons_zero, List.set_cons_succ, List.getElem_toArray, List.getElem_cons_succ, List.getElem_cons_zero]
            refine wpAnyH_take (i := 15) (v := ?_) rfl (by kernel_rfl) (by kernel_rfl) (by kernel_rfl) (fun _ _ _ h => h) (Or.inl ⟨by kernel_rfl, ?_⟩) hHeld ?_
            rotate_left
            · (intro w' hSw; obtain ⟨hS0, hS1, hS2, hS3⟩ := hSw; go_simp; try with_reducible rfl)
            simp only [Act.put, List.setIfInBounds_toArray, List.set_cons_zero, List.set_cons_succ, List.getElem_toArray, List.getElem_cons_succ, List.getElem_cons_zero]
            refine wpAnyH_take (i := 16) (v := undef) rfl (by kernel_rfl) (by kernel_rfl) (by kernel_rfl) (fun _ _ _ h => h) (Or.inr ⟨by kernel_rfl, rfl⟩) hHeld ?_
            simp only [Act.put, List.setIfInBounds_toArray, List.set_cons_zero, List.set_cons_succ, List.getElem_toArray, List.getElem_cons_succ, List.getElem_cons_zero]
            refine wpAnyH_take (i := 17) (v := undef) rfl (by kernel_rfl) (by kernel_rfl) (by kernel_rfl) (fun _ _ _ h => h) (Or.inr ⟨by kernel_rfl, rfl⟩) hHeld ?_
            simp only [Act.put, List.setIfInBounds_toArray, List.set_cons_zero, List.set_cons_succ, List.getElem_toArray, List.getElem_cons_succ, List.getElem_cons_zero]
            refine wpAnyH_take (i := 18) (v := undef) rfl (by kernel_rfl) (by kernel_rfl) (by kernel_rfl) (fun _ _ _ h => h) (Or.inr ⟨by kernel_rfl, rfl⟩) hHeld ?_
            simp only [Act.put, List.setIfInBounds_toArray, List.set_cons_zero, List.set_cons_succ, List.getElem_toArray, List.getElem_cons_succ, List.getElem_cons_zero]
            refine wpAnyH_take (i := 19) (v := undef) rfl (by kernel_rfl) (by kernel_rfl) (by kernel_rfl) (fun _ _ _ h => h) (Or.inr ⟨by kernel_rfl, rfl⟩) hHeld ?_
            simp only [Act.put, List.setIfInBounds_toArray, List.set_cons_zero, List.set_cons_succ, List.getElem_toArray, List.getElem_cons_succ, List.getElem_cons_zero]
            refine wpAnyH_take (i := 20) (v := undef) rfl (by kernel_rfl) (by kernel_rfl) (by kernel_rfl) (fun _ _ _ h => h) (Or.inr ⟨by kernel_rfl, rfl⟩) hHeld ?_
            simp only [Act.put, List.setIfInBounds_toArray, List.set_cons_zero, List.set_cons_succ, List.getElem_toArray, List.getElem_cons_succ, List.getElem_cons_zero]
            refine wpAnyH_take (i := 21) (v := undef) rfl (by kernel_rfl) (by kernel_rfl) (by kernel_rfl) (fun _ _ _ h => h) (Or.inr ⟨by kernel_rfl, rfl⟩) hHeld ?_
            simp only [Act.put, List.setIfInBounds_toArray, List.set_cons_zero, List.set_cons_succ, List.getElem_toArray, List.getElem_cons_succ, List.getElem_cons_zero]
            refine wpAnyH_take (i := 22) (v := undef) rfl (by kernel_rfl) (by kernel_rfl) (by kernel_rfl) (fun _ _ _ h => h) (Or.inr ⟨by kernel_rfl, rfl⟩) hHeld ?_
            simp only [Act.put, List.setIfInBounds_toArray, List.set_cons_zero, List.set_cons_succ, List.getElem_toArray, List.getElem_cons_succ, List.getElem_cons_zero]
            refine wpAnyH_take (i := 23) (v := undef) rfl (by kernel_rfl) (by kernel_rfl) (by kernel_rfl) (fun _ _ _ h => h) (Or.inr ⟨by kernel_rfl, rfl⟩) hHeld ?_
            simp only [Act.put, List.setIfInBounds_toArray, List.set_cons_zero, List.set_cons_succ, List.getElem_toArray, List.getElem_cons_succ, List.getElem_cons_zero]
            refine wpAnyH_take (i := 24) (v := ?_) rfl (by kernel_rfl) (by kernel_rfl) (by kernel_rfl) (fun _ _ _ h => h) (Or.inl ⟨by kernel_rfl, ?_⟩) hHeld ?_
            rotate_left
            · (intro w' hSw; obtain ⟨hS0, hS1, hS2, hS3⟩ := hSw; go_simp; try with_reducible rfl)
            simp only [Act.put, List.setIfInBounds_toArray, List.set_cons_zero, List.set_cons_succ, List.getElem_toArray, List.getElem_cons_succ, List.getElem_cons_zero]
            refine wpAnyH_take (i := 25) (v := ?_) rfl (by kernel_rfl) (by kernel_rfl) (by kernel_rfl) (fun _ _ _ h => h) (Or.inl ⟨by kernel_rfl, ?_⟩) hHeld ?_
            rotate_left
            · (intro w' hSw; obtain ⟨hS0, hS1, hS2, hS3⟩ := hSw; go_simp; try with_reducible rfl)
            simp only [Act.put, List.setIfInBounds_toArray, List.set_cons_zero, List.set_cons_succ, List.getElem_toArray, List.getElem_cons_succ, List.getElem_cons_zero]
            refine wpAnyH_take (i := 26) (v := ?_) rfl (by kernel_rfl) (by kernel_rfl) (by kernel_rfl) (fun _ _ _ h => h) (Or.inl ⟨by kernel_rfl, ?_⟩) hHeld ?_
            rotate_left
            · (intro w' hSw; obtain ⟨hS0, hS1, hS2, hS3⟩ := hSw; go_simp; try with_reducible rfl)
            simp only [Act.put, List.setIfInBounds_toArray, List.set_cons_zero, List.set_cons_succ, List.getElem_toArray, List.getElem_cons_succ, List.getElem_cons_zero]
            refine wpAnyH_ready (rs := [27]) (by kernel_rfl) (by simp) (AllReadyH.cons rfl (fun K hK => ?_) AllReadyH.nil)
            go_simp
            refine hK.out _ _ ⟨(World.cell?_setCell_far _ _ _ _ (by simpa using Ne.symm hb)).trans c1', (World.cell?_setCell_far _ _ _ _ (by simpa using Ne.symm hb)).trans c2', (World.cell?_setCell_far _ _ _ _ (by simp; omega)).trans hl1', (World.cell?_setCell_far _ _ _ _ (by simp; omega)).trans hl2'⟩ (fun hHeld => ?_)
            clear hK K
            (try simp only [Act.put, List.setIfInBounds_toArray, List.set_cons_zero, List.set_cons_succ, List.getElem_toArray, List.getElem_cons_succ, List.getElem_cons_zero])
            refine wpAnyH_done (by kernel_rfl) ?_ _
            go_wp2_with fail
            refine ⟨⟨j + 1, met, _, _, rfl, (HR.out.2.1.met1 hbk (by rw [← HI.out.2.2.2.1]; exact hjm) HI.out.1 HI.out.2.1 (by rw [← HI.out.2.2.1]; exact HM.out.1) (b := false) (by rw [HM.out.2.1, dec_beq, dec_beq, HM.out.2.2.1, HM.out.2.2.2]; rfl)).below ((Below.refl _ _).drew)⟩, by simp [intOf]; omega⟩
          · go_wp2_with fail
            refine wp_region_held_drew (S := (fun w' => w'.cell? ⟨b, off + i * 5 + 1, none⟩ = some (.int .i64 yn) ∧ w'.cell? ⟨b, off + i * 5 + 2, none⟩ = some (.int .i64 yt) ∧ w'.cell? ⟨w.heap.size + 1, 1, none⟩ = some (.int .i64 lan) ∧ w'.cell? ⟨w.heap.size + 1, 2, none⟩ = some (.int .i64 lat))) (by kernel_rfl) (by exact ⟨c1', c2', hl1', hl2'⟩) (fun hHeld => ?_)
            refine wpAnyH_take (i := 0) (v := ?_) rfl (by kernel_rfl) (by kernel_rfl) (by kernel_rfl) (fun _ _ _ h => h) (Or.inl ⟨by kernel_rfl, ?_⟩) hHeld ?_
            rotate_left
            · (intro w' hSw; obtain ⟨hS0, hS1, hS2, hS3⟩ := hSw; go_simp; try with_reducible rfl)
            simp only [Act.put, List.setIfInBounds_toArray, List.set_cons_zero, List.set_cons_succ, List.getElem_toArray, List.getElem_cons_succ, List.getElem_cons_zero]
            refine wpAnyH_take (i := 1) (v := ?_) rfl (by kernel_rfl) (by kernel_rfl) (by kernel_rfl) (fun _ _ _ h => h) (Or.inl ⟨by kernel_rfl, ?_⟩) hHeld ?_
            rotate_left
            · (intro w' hSw; obtain ⟨hS0, hS1, hS2, hS3⟩ := hSw; go_simp; try with_reducible rfl)
            simp only [Act.put, List.setIfInBounds_toArray, List.set_cons_zero, List.set_cons_succ, List.getElem_toArray, List.getElem_cons_succ, List.getElem_cons_zero]
            refine wpAnyH_take (i := 2) (v := ?_) rfl (by kernel_rfl) (by kernel_rfl) (by kernel_rfl) (fun _ _ _ h => h) (Or.inl ⟨by kernel_rfl, ?_⟩) hHeld ?_
            rotate_left
            · (intro w' hSw; obtain ⟨hS0, hS1, hS2, hS3⟩ := hSw; go_simp; try with_reducible rfl)
            simp only [Act.put, List.setIfInBounds_toArray, List.set_cons_zero, List.set_cons_succ, List.getElem_toArray, List.getElem_cons_succ, List.getElem_cons_zero]
            refine wpAnyH_take (i := 3) (v := ?_) rfl (by kernel_rfl) (by kernel_rfl) (by kernel_rfl) (fun _ _ _ h => h) (Or.inl ⟨by kernel_rfl, ?_⟩) hHeld ?_
            rotate_left
            · (intro w' hSw; obtain ⟨hS0, hS1, hS2, hS3⟩ := hSw; go_simp; try with_reducible rfl)
            simp only [Act.put, List.setIfInBounds_toArray, List.set_cons_zero, List.set_cons_succ, List.getElem_toArray, List.getElem_cons_succ, List.getElem_cons_zero]
            refine wpAnyH_take (i := 4) (v := ?_) rfl (by kernel_rfl) (by kernel_rfl) (by kernel_rfl) (fun _ _ _ h => h) (Or.inl ⟨by kernel_rfl, ?_⟩) hHeld ?_
            rotate_left
            · (intro w' hSw; obtain ⟨hS0, hS1, hS2, hS3⟩ := hSw; go_simp; try with_reducible rfl)
            simp only [Act.put, List.setIfInBounds_toArray, List.set_cons_zero, List.set_cons_succ, List.getElem_toArray, List.getElem_cons_succ, List.getElem_cons_zero]
            refine wpAnyH_ready (rs := [5]) (by kernel_rfl) (by simp) (AllReadyH.cons rfl (fun K hK => ?_) AllReadyH.nil)
            go_simp
            refine hK.out _ _ hHeld (fun hHeld => ?_)
            clear hK K
            (try simp only [Act.put, List.setIfInBounds_toArray, List.set_cons_zero, List.set_cons_succ, List.getElem_toArray, List.getElem_cons_succ, List.getElem_cons_zero])
            refine wpAnyH_take (i := 6) (v := ?_) rfl (by kernel_rfl) (by kernel_rfl) (by kernel_rfl) (fun _ _ _ h => h) (Or.inl ⟨by kernel_rfl, ?_⟩) hHeld ?_
            rotate_left
            · (intro w' hSw; obtain ⟨hS0, hS1, hS2, hS3⟩ := hSw; go_simp; try with_reducible rfl)
            simp only [Act.put, List.setIfInBounds_toArray, List.set_cons_zero, List.set_cons_succ, List.getElem_toArray, List.getElem_cons_succ, List.getElem_cons_zero]
            refine wpAnyH_take (i := 7) (v := ?_) rfl (by kernel_rfl) (by kernel_rfl) (by kernel_rfl) (fun _ _ _ h => h) (Or.inl ⟨by kernel_rfl, ?_⟩) hHeld ?_
            rotate_left
            · (intro w' hSw; obtain ⟨hS0, hS1, hS2, hS3⟩ := hSw; go_simp; try with_reducible rfl)
            simp only [Act.put, List.setIfInBounds_toArray, List.set_cons_zero, List.set_cons_succ, List.getElem_toArray, List.getElem_cons_succ, List.getElem_cons_zero]
            refine wpAnyH_take (i := 8) (v := ?_) rfl (by kernel_rfl) (by kernel_rfl) (by kernel_rfl) (fun _ _ _ h => h) (Or.inl ⟨by kernel_rfl, ?_⟩) hHeld ?_
            rotate_left
            · (intro w' hSw; obtain ⟨hS0, hS1, hS2, hS3⟩ := hSw; go_simp; try with_reducible rfl)
            simp only [Act.put, List.setIfInBounds_toArray, List.set_cons_zero, List.set_cons_succ, List.getElem_toArray, List.getElem_cons_succ, List.getElem_cons_zero]
            refine wpAnyH_take (i := 9) (v := ?_) rfl (by kernel_rfl) (by kernel_rfl) (by kernel_rfl) (fun _ _ _ h => h) (Or.inl ⟨by kernel_rfl, ?_⟩) hHeld ?_
            rotate_left
            · (intro w' hSw; obtain ⟨hS0, hS1, hS2, hS3⟩ := hSw; go_simp; try with_reducible rfl)
            simp only [Act.put, List.setIfInBounds_toArray, List.set_cons_zero, List.set_cons_succ, List.getElem_toArray, List.getElem_cons_succ, List.getElem_cons_zero]
            refine wpAnyH_take (i := 10) (v := ?_) rfl (by kernel_rfl) (by kernel_rfl) (by kernel_rfl) (fun _ _ _ h => h) (Or.inl ⟨by kernel_rfl, ?_⟩) hHeld ?_
            rotate_left
            · (intro w' hSw; obtain ⟨hS0, hS1, hS2, hS3⟩ := hSw; go_simp; try with_reducible rfl)
            simp only [Act.put, List.setIfInBounds_toArray, List.set_cons_zero, List.set_cons_succ, List.getElem_toArray, List.getElem_cons_succ, List.getElem_cons_zero]
            refine wpAnyH_take (i := 11) (v := ?_) rfl (by kernel_rfl) (by kernel_rfl) (by kernel_rfl) (fun _ _ _ h => h) (Or.inl ⟨by kernel_rfl, ?_⟩) hHeld ?_
            rotate_left
            · (intro w' hSw; obtain ⟨hS0, hS1, hS2, hS3⟩ := hSw; go_simp; try with_reducible rfl)
            simp only [Act.put, List.setIfInBounds_toArray, List.set_cons_zero, List.set_cons_succ, List.getElem_toArray, List.getElem_cons_succ, List.getElem_cons_zero]
            refine wpAnyH_take (i := 12) (v := ?_) rfl (by kernel_rfl) (by kernel_rfl) (by kernel_rfl) (fun _ _ _ h => h) (Or.inl ⟨by kernel_rfl, ?_⟩) hHeld ?_
            rotate_left
            · (intro w' hSw; obtain ⟨hS0, hS1, hS2, hS3⟩ := hSw; go_simp; try with_reducible rfl)
            simp only [Act.put, List.setIfInBounds_toArray, List.set_cons_zero, List.set_cons_succ, List.getElem_toArray, List.getElem_cons_succ, List.getElem_cons_zero]
            refine wpAnyH_take (i := 13) (v := ?_) rfl (by kernel_rfl) (by kernel_rfl) (by kernel_rfl) (fun _ _ _ h => h) (Or.inl ⟨by kernel_rfl, ?_⟩) hHeld ?_
            rotate_left
            · (intro w' hSw; obtain ⟨hS0, hS1, hS2, hS3⟩ := hSw; go_simp; try with_reducible rfl)
            simp only [Act.put, List.setIfInBounds_toArray, List.set_cons_zero, List.set_cons_succ, List.getElem_toArray, List.getElem_cons_succ, List.getElem_cons_zero]
            refine wpAnyH_take (i := 14) (v := ?_) rfl (by kernel_rfl) (by kernel_rfl) (by kernel_rfl) (fun _ _ _ h => h) (Or.inl ⟨by kernel_rfl, ?_⟩) hHeld ?_
            rotate_left
            · (intro w' hSw; obtain ⟨hS0, hS1, hS2, hS3⟩ := hSw; go_simp; try with_reducible rfl)
            simp only [Act.put, List.setIfInBounds_toArray, List.set_cons_zero, List.set_cons_succ, List.getElem_toArray, List.getElem_cons_succ, List.getElem_cons_zero]
            refine wpAnyH_take (i := 15) (v := ?_) rfl (by kernel_rfl) (by kernel_rfl) (by kernel_rfl) (fun _ _ _ h => h) (Or.inl ⟨by kernel_rfl, ?_⟩) hHeld ?_
            rotate_left
            · (intro w' hSw; obtain ⟨hS0, hS1, hS2, hS3⟩ := hSw; go_simp; try with_reducible rfl)
            simp only [Act.put, List.setIfInBounds_toArray, List.set_cons_zero, List.set_cons_succ, List.getElem_toArray, List.getElem_cons_succ, List.getElem_cons_zero]
            refine wpAnyH_take (i := 16) (v := ?_) rfl (by kernel_rfl) (by kernel_rfl) (by kernel_rfl) (fun _ _ _ h => h) (Or.inl ⟨by kernel_rfl, ?_⟩) hHeld ?_
            rotate_left
            · (intro w' hSw; obtain ⟨hS0, hS1, hS2, hS3⟩ := hSw; go_simp; try with_reducible rfl)
            simp only [Act.put, List.setIfInBounds_toArray, List.set_cons_zero, List.set_cons_succ, List.getElem_toArray, List.getElem_cons_succ, List.getElem_cons_zero]
            refine wpAnyH_take (i := 17) (v := ?_) rfl (by kernel_rfl) (by kernel_rfl) (by kernel_rfl) (fun _ _ _ h => h) (Or.inl ⟨by kernel_rfl, ?_⟩) hHeld ?_
            rotate_left
            · (intro w' hSw; obtain ⟨hS0, hS1, hS2, hS3⟩ := hSw; go_simp; try with_reducible rfl)
            simp only [Act.put, List.setIfInBounds_toArray, List.set_cons_zero, List.set_cons_succ, List.getElem_toArray, List.getElem_cons_succ, List.getElem_cons_zero]
            refine wpAnyH_take (i := 18) (v := ?_) rfl (by kernel_rfl) (by kernel_rfl) (by kernel_rfl) (fun _ _ _ h => h) (Or.inl ⟨by kernel_rfl, ?_⟩) hHeld ?_
            rotate_left
            · (intro w' hSw; obtain ⟨hS0, hS1, hS2, hS3⟩ := hSw; go_simp; try with_reducible rfl)
            simp only [Act.put, List.setIfInBounds_toArray, List.set_cons_zero, List.set_cons_succ, List.getElem_toArray, List.getElem_cons_succ, List.getElem_cons_zero]
            refine wpAnyH_take (i := 19) (v := ?_) rfl (by kernel_rfl) (by kernel_rfl) (by kernel_rfl) (fun _ _ _ h => h) (Or.inl ⟨by kernel_rfl, ?_⟩) hHeld ?_
            rotate_left
            · (intro w' hSw; obtain ⟨hS0, hS1, hS2, hS3⟩ := hSw; go_simp; try with_reducible rfl)
            simp only [Act.put, List.setIfInBounds_toArray, List.set_cons_zero, List.set_cons_succ, List.getElem_toArray, List.getElem_cons_succ, List.getElem_cons_zero]
            refine wpAnyH_take (i := 20) (v := ?_) rfl (by kernel_rfl) (by kernel_rfl) (by kernel_rfl) (fun _ _ _ h => h) (Or.inl ⟨by kernel_rfl, ?_⟩) hHeld ?_
            rotate_left
            · (intro w' hSw; obtain ⟨hS0, hS1, hS2, hS3⟩ := hSw; go_simp; try with_reducible rfl)
            simp only [Act.put, List.setIfInBounds_toArray, List.set_cons_zero, List.set_cons_succ, List.getElem_toArray, List.getElem_cons_succ, List.getElem_cons_zero]
            refine wpAnyH_take (i := 21) (v := ?_) rfl (by kernel_rfl) (by kernel_rfl) (by kernel_rfl) (fun _ _ _ h => h) (Or.inl ⟨by kernel_rfl, ?_⟩) hHeld ?_
            rotate_left
            · (intro w' hSw; obtain ⟨hS0, hS1, hS2, hS3⟩ := hSw; go_simp; try with_reducible rfl)
            simp only [Act.put, List.setIfInBounds_toArray, List.set_cons_zero, List.set_cons_succ, List.getElem_toArray, List.getElem_cons_succ, List.getElem_cons_zero]
            refine wpAnyH_take (i := 22) (v := ?_) rfl (by kernel_rfl) (by kernel_rfl) (by kernel_rfl) (fun _ _ _ h => h) (Or.inl ⟨by kernel_rfl, ?_⟩) hHeld ?_
            rotate_left
            · (intro w' hSw; obtain ⟨hS0, hS1, hS2, hS3⟩ := hSw; go_simp; try with_reducible rfl)
            simp only [Act.put, List.setIfInBounds_toArray, List.set_cons_zero, List.set_cons_succ, List.getElem_toArray, List.getElem_cons_succ, List.getElem_cons_zero]
            refine wpAnyH_take (i := 23) (v := ?_) rfl (by kernel_rfl) (by kernel_rfl) (by kernel_rfl) (fun _ _ _ h => h) (Or.inl ⟨by kernel_rfl, ?_⟩) hHeld ?_
            rotate_left
            · (intro w' hSw; obtain ⟨hS0, hS1, hS2, hS3⟩ := hSw; go_simp; try with_reducible rfl)
            simp only [Act.put, List.setIfInBounds_toArray, List.set_cons_zero, List.set_cons_succ, List.getElem_toArray, List.getElem_cons_succ, List.getElem_cons_zero]
            refine wpAnyH_take (i := 24) (v := ?_) rfl (by kernel_rfl) (by kernel_rfl) (by kernel_rfl) (fun _ _ _ h => h) (Or.inl ⟨by kernel_rfl, ?_⟩) hHeld ?_
            rotate_left
            · (intro w' hSw; obtain ⟨hS0, hS1, hS2, hS3⟩ := hSw; go_simp; try with_reducible rfl)
            simp only [Act.put, List.setIfInBounds_toArray, List.set_cons_zero, List.set_cons_succ, List.getElem_toArray, List.getElem_cons_succ, List.getElem_cons_zero]
            refine wpAnyH_take (i := 25) (v := ?_) rfl (by kernel_rfl) (by kernel_rfl) (by kernel_rfl) (fun _ _ _ h => h) (Or.inl ⟨by kernel_rfl, ?_⟩) hHeld ?_
            rotate_left
            · (intro w' hSw; obtain ⟨hS0, hS1, hS2, hS3⟩ := hSw; go_simp; try with_reducible rfl)
            simp only [Act.put, List.setIfInBounds_toArray, List.set_cons_zero, List.set_cons_succ, List.getElem_toArray, List.getElem_cons_succ, List.getElem_cons_zero]
            refine wpAnyH_take (i := 26) (v := ?_) rfl (by kernel_rfl) (by kernel_rfl) (by kernel_rfl) (fun _ _ _ h => h) (Or.inl ⟨by kernel_rfl, ?_⟩) hHeld ?_
            rotate_left
            · (intro w' hSw; obtain ⟨hS0, hS1, hS2, hS3⟩ := hSw; go_simp; try with_reducible rfl)
            simp only [Act.put, List.setIfInBounds_toArray, List.set_cons_zero, List.set_cons_succ, List.getElem_toArray, List.getElem_cons_succ, List.getElem_cons_zero]
            refine wpAnyH_ready (rs := [27]) (by kernel_rfl) (by simp) (AllReadyH.cons rfl (fun K hK => ?_) AllReadyH.nil)
            go_simp
            refine hK.out _ _ ⟨(World.cell?_setCell_far _ _ _ _ (by simpa using Ne.symm hb)).trans c1', (World.cell?_setCell_far _ _ _ _ (by simpa using Ne.symm hb)).trans c2', (World.cell?_setCell_far _ _ _ _ (by simp; omega)).trans hl1', (World.cell?_setCell_far _ _ _ _ (by simp; omega)).trans hl2'⟩ (fun hHeld => ?_)
            clear hK K
            (try simp only [Act.put, List.setIfInBounds_toArray, List.set_cons_zero, List.set_cons_succ, List.getElem_toArray, List.getElem_cons_succ, List.getElem_cons_zero])
            refine wpAnyH_done (by kernel_rfl) ?_ _
            go_wp2_with fail
            refine ⟨⟨j + 1, met, _, _, rfl, (HR.out.2.1.met1 hbk (by rw [← HI.out.2.2.2.1]; exact hjm) HI.out.1 HI.out.2.1 (by rw [← HI.out.2.2.1]; exact HM.out.1) (b := q1) (by rw [HM.out.2.1, dec_beq, dec_beq, HM.out.2.2.1, HM.out.2.2.2]; rfl)).below ((Below.refl _ _).drew)⟩, by simp [intOf]; omega⟩
        · go_wp2_with fail
          refine wp_region_held_drew (S := (fun w' => w'.cell? ⟨b, off + i * 5 + 1, none⟩ = some (.int .i64 yn) ∧ w'.cell? ⟨b, off + i * 5 + 2, none⟩ = some (.int .i64 yt) ∧ w'.cell? ⟨w.heap.size + 1, 1, none⟩ = some (.int .i64 lan) ∧ w'.cell? ⟨w.heap.size + 1, 2, none⟩ = some (.int .i64 lat))) (by kernel_rfl) (by exact ⟨c1', c2', hl1', hl2'⟩) (fun hHeld => ?_)
          refine wpAnyH_take (i := 0) (v := ?_) rfl (by kernel_rfl) (by kernel_rfl) (by kernel_rfl) (fun _ _ _ h => h) (Or.inl ⟨by kernel_rfl, ?_⟩) hHeld ?_
          rotate_left
          · (intro w' hSw; obtain ⟨hS0, hS1, hS2, hS3⟩ := hSw; go_simp; try with_reducible rfl)
          simp only [Act.put, List.setIfInBounds_toArray, List.set_cons_zero, List.set_cons_succ, List.getElem_toArray, List.getElem_cons_succ, List.getElem_cons_zero]
          refine wpAnyH_take (i := 1) (v := ?_) rfl (by kernel_rfl) (by kernel_rfl) (by kernel_rfl) (fun _ _ _ h => h) (Or.inl ⟨by kernel_rfl, ?_⟩) hHeld ?_
          rotate_left
          · (intro w' hSw; obtain ⟨hS0, hS1, hS2, hS3⟩ := hSw; go_simp; try with_reducible rfl)
          simp only [Act.put, List.setIfInBounds_toArray, List.set_cons_zero, List.set_cons_succ, List.getElem_toArray, List.getElem_cons_succ, List.getElem_cons_zero]
          refine wpAnyH_take (i := 2) (v := ?_) rfl (by kernel_rfl) (by kernel_rfl) (by kernel_rfl) (fun _ _ _ h => h) (Or.inl ⟨by kernel_rfl, ?_⟩) hHeld ?_
          rotate_left
          · (intro w' hSw; obtain ⟨hS0, hS1, hS2, hS3⟩ := hSw; go_simp; try with_reducible rfl)
          simp only [Act.put, List.setIfInBounds_toArray, List.set_cons_zero, List.set_cons_succ, List.getElem_toArray, List.getElem_cons_succ, List.getElem_cons_zero]
          refine wpAnyH_take (i := 3) (v := ?_) rfl (by kernel_rfl) (by kernel_rfl) (by kernel_rfl) (fun _ _ _ h => h) (Or.inl ⟨by kernel_rfl, ?_⟩) hHeld ?_
          rotate_left
          · (intro w' hSw; obtain ⟨hS0, hS1, hS2, hS3⟩ := hSw; go_simp; try with_reducible rfl)
          simp only [Act.put, List.setIfInBounds_toArray, List.set_cons_zero, List.set_cons_succ, List.getElem_toArray, List.getElem_cons_succ, List.getElem_cons_zero]
          refine wpAnyH_take (i := 4) (v := ?_) rfl (by kernel_rfl) (by kernel_rfl) (by kernel_rfl) (fun _ _ _ h => h) (Or.inl ⟨by kernel_rfl, ?_⟩) hHeld ?_
          rotate_left
          · (intro w' hSw; obtain ⟨hS0, hS1, hS2, hS3⟩ := hSw; go_simp; try with_reducible rfl)
          simp only [Act.put, List.setIfInBounds_toArray, List.set_cons_zero, List.set_cons_succ, List.getElem_toArray, List.getElem_cons_succ, List.getElem_cons_zero]
          refine wpAnyH_ready (rs := [5]) (by kernel_rfl) (by simp) (AllReadyH.cons rfl (fun K hK => ?_) AllReadyH.nil)
          go_simp
          refine hK.out _ _ hHeld (fun hHeld => ?_)
          clear hK K
          (try simp only [Act.put, List.setIfInBounds_toArray, List.set_cons_zero, List.set_cons_succ, List.getElem_toArray, List.getElem_cons_succ, List.getElem_cons_zero])
          refine wpAnyH_take (i := 6) (v := ?_) rfl (by kernel_rfl) (by kernel_rfl) (by kernel_rfl) (fun _ _ _ h => h) (Or.inl ⟨by kernel_rfl, ?_⟩) hHeld ?_
          rotate_left
          · (intro w' hSw; obtain ⟨hS0, hS1, hS2, hS3⟩ := hSw; go_simp; try with_reducible rfl)
          simp only [Act.put, List.setIfInBounds_toArray, List.set_cons_zero, List.set_cons_succ, List.getElem_toArray, List.getElem_cons_succ, List.getElem_cons_zero]
          refine wpAnyH_take (i := 7) (v := undef) rfl (by kernel_rfl) (by kernel_rfl) (by kernel_rfl) (fun _ _ _ h => h) (Or.inr ⟨by kernel_rfl, rfl⟩) hHeld ?_
          simp only [Act.put, List.setIfInBounds_toArray, List.set_cons_zero, List.set_cons_succ, List.getElem_toArray, List.getElem_cons_succ, List.getElem_cons_zero]
          refine wpAnyH_take (i := 8) (v := undef) rfl (by kernel_rfl) (by kernel_rfl) (by kernel_rfl) (fun _ _ _ h => h) (Or.inr ⟨by kernel_rfl, rfl⟩) hHeld ?_
          simp only [Act.put, List.setIfInBounds_toArray, List.set_cons_zero, List.set_cons_succ, List.getElem_toArray, List.getElem_cons_succ, List.getElem_cons_zero]
          refine wpAnyH_take (i := 9) (v := undef) rfl (by kernel_rfl) (by kernel_rfl) (by kernel_rfl) (fun _ _ _ h => h) (Or.inr ⟨by kernel_rfl, rfl⟩) hHeld ?_
          simp only [Act.put, List.setIfInBounds_toArray, List.set_cons_zero, List.set_cons_succ, List.getElem_toArray, List.getElem_cons_succ, List.getElem_cons_zero]
          refine wpAnyH_take (i := 10) (v := undef) rfl (by kernel_rfl) (by kernel_rfl) (by kernel_rfl) (fun _ _ _ h => h) (Or.inr ⟨by kernel_rfl, rfl⟩) hHeld ?_
          simp only [Act.put, List.setIfInBounds_toArray, List.set_cons_zero, List.set_cons_succ, List.getElem_toArray, List.getElem_cons_succ, List.getElem_cons_zero]
          refine wpAnyH_take (i := 11) (v := undef) rfl (by kernel_rfl) (by kernel_rfl) (by kernel_rfl) (fun _ _ _ h => h) (Or.inr ⟨by kernel_rfl, rfl⟩) hHeld ?_
          simp only [Act.put, List.setIfInBounds_toArray, List.set_cons_zero, List.set_cons_succ, List.getElem_toArray, List.getElem_cons_succ, List.getElem_cons_zero]
          refine wpAnyH_take (i := 12) (v := undef) rfl (by kernel_rfl) (by kernel_rfl) (by kernel_rfl) (fun _ _ _ h => h) (Or.inr ⟨by kernel_rfl, rfl⟩) hHeld ?_
          simp only [Act.put, List.setIfInBounds_toArray, List.set_cons_zero, List.set_cons_succ, List.getElem_toArray, List.getElem_cons_succ, List.getElem_cons_zero]
          refine wpAnyH_take (i := 13) (v := undef) rfl (by kernel_rfl) (by kernel_rfl) (by kernel_rfl) (fun _ _ _ h => h) (Or.inr ⟨by kernel_rfl, rfl⟩) hHeld ?_
          simp only [Act.put, List.setIfInBounds_toArray, List.set_cons_zero, List.set_cons_succ, List.getElem_toArray, List.getElem_cons_succ, List.getElem_cons_zero]
          refine wpAnyH_take (i := 14) (v := undef) rfl (by kernel_rfl) (by kernel_rfl) (by kernel_rfl) (fun _ _ _ h => h) (Or.inr ⟨by kernel_rfl, rfl⟩) hHeld ?_
          simp only [Act.put, List.setIfInBounds_toArray, List.set_cons_zero, List.set_cons_succ, List.getElem_toArray, List.getElem_cons_succ, List.getElem_cons_zero]
          refine wpAnyH_take (i := 15) (v := undef) rfl (by kernel_rfl) (by kernel_rfl) (by kernel_rfl) (fun _ _ _ h => h) (Or.inr ⟨by kernel_rfl, rfl⟩) hHeld ?_
          simp only [Act.put, List.setIfInBounds_toArray, List.set_cons_zero, List.set_cons_succ, List.getElem_toArray, List.getElem_cons_succ, List.getElem_cons_zero]
          refine wpAnyH_take (i := 16) (v := undef) rfl (by kernel_rfl) (by kernel_rfl) (by kernel_rfl) (fun _ _ _ h => h) (Or.inr ⟨by kernel_rfl, rfl⟩) hHeld ?_
          simp only [Act.put, List.setIfInBounds_toArray, List.set_cons_zero, List.set_cons_succ, List.getElem_toArray, List.getElem_cons_succ, List.getElem_cons_zero]
          refine wpAnyH_take (i := 17) (v := undef) rfl (by kernel_rfl) (by kernel_rfl) (by kernel_rfl) (fun _ _ _ h => h) (Or.inr ⟨by kernel_rfl, rfl⟩) hHeld ?_
          simp only [Act.put, List.setIfInBounds_toArray, List.set_cons_zero, List.set_cons_succ, List.getElem_toArray, List.getElem_cons_succ, List.getElem_cons_zero]
          refine wpAnyH_take (i := 18) (v := undef) rfl (by kernel_rfl) (by kernel_rfl) (by kernel_rfl) (fun _ _ _ h => h) (Or.inr ⟨by kernel_rfl, rfl⟩) hHeld ?_
          simp only [Act.put, List.setIfInBounds_toArray, List.set_cons_zero, List.set_cons_succ, List.getElem_toArray, List.getElem_cons_succ, List.getElem_cons_zero]
          refine wpAnyH_take (i := 19) (v := undef) rfl (by kernel_rfl) (by kernel_rfl) (by kernel_rfl) (fun _ _ _ h => h) (Or.inr ⟨by kernel_rfl, rfl⟩) hHeld ?_
          simp only [Act.put, List.setIfInBounds_toArray, List.set_cons_zero, List.set_cons_succ, List.getElem_toArray, List.getElem_cons_succ, List.getElem_cons_zero]
          refine wpAnyH_take (i := 20) (v := undef) rfl (by kernel_rfl) (by kernel_rfl) (by kernel_rfl) (fun _ _ _ h => h) (Or.inr ⟨by kernel_rfl, rfl⟩) hHeld ?_
          simp only [Act.put, List.setIfInBounds_toArray, List.set_cons_zero, List.set_cons_succ, List.getElem_toArray, List.getElem_cons_succ, List.getElem_cons_zero]
          refine wpAnyH_take (i := 21) (v := undef) rfl (by kernel_rfl) (by kernel_rfl) (by kernel_rfl) (fun _ _ _ h => h) (Or.inr ⟨by kernel_rfl, rfl⟩) hHeld ?_
          simp only [Act.put, List.setIfInBounds_toArray, List.set_cons_zero, List.set_cons_succ, List.getElem_toArray, List.getElem_cons_succ, List.getElem_cons_zero]
          refine wpAnyH_take (i := 22) (v := undef) rfl (by kernel_rfl) (by kernel_rfl) (by kernel_rfl) (fun _ _ _ h => h) (Or.inr ⟨by kernel_rfl, rfl⟩) hHeld ?_
          simp only [Act.put, List.setIfInBounds_toArray, List.set_cons_zero, List.set_cons_succ, List.getElem_toArray, List.getElem_cons_succ, List.getElem_cons_zero]
          refine wpAnyH_take (i := 23) (v := undef) rfl (by kernel_rfl) (by kernel_rfl) (by kernel_rfl) (fun _ _ _ h => h) (Or.inr ⟨by kernel_rfl, rfl⟩) hHeld ?_
          simp only [Act.put, List.setIfInBounds_toArray, List.set_cons_zero, List.set_cons_succ, List.getElem_toArray, List.getElem_cons_succ, List.getElem_cons_zero]
          refine wpAnyH_take (i := 24) (v := undef) rfl (by kernel_rfl) (by kernel_rfl) (by kernel_rfl) (fun _ _ _ h => h) (Or.inr ⟨by kernel_rfl, rfl⟩) hHeld ?_
          simp only [Act.put, List.setIfInBounds_toArray, List.set_cons_zero, List.set_cons_succ, List.getElem_toArray, List.getElem_cons_succ, List.getElem_cons_zero]
          refine wpAnyH_take (i := 25) (v := ?_) rfl (by kernel_rfl) (by kernel_rfl) (by kernel_rfl) (fun _ _ _ h => h) (Or.inl ⟨by kernel_rfl, ?_⟩) hHeld ?_
          rotate_left
          · (intro w' hSw; obtain ⟨hS0, hS1, hS2, hS3⟩ := hSw; go_simp; try with_reducible rfl)
          simp only [Act.put, List.setIfInBounds_toArray, List.set_cons_zero, List.set_cons_succ, List.getElem_toArray, List.getElem_cons_succ, List.getElem_cons_zero]
          refine wpAnyH_take (i := 26) (v := ?_) rfl (by kernel_rfl) (by kernel_rfl) (by kernel_rfl) (fun _ _ _ h => h) (Or.inl ⟨by kernel_rfl, ?_⟩) hHeld ?_
          rotate_left
          · (intro w' hSw; obtain ⟨hS0, hS1, hS2, hS3⟩ := hSw; go_simp; try with_reducible rfl)
          simp only [Act.put, List.setIfInBounds_toArray, List.set_cons_zero, List.set_cons_succ, List.getElem_toArray, List.getElem_cons_succ, List.getElem_cons_zero]
          refine wpAnyH_ready (rs := [27]) (by kernel_rfl) (by simp) (AllReadyH.cons rfl (fun K hK => ?_) AllReadyH.nil)
          go_simp
          refine hK.out _ _ ⟨(World.cell?_setCell_far _ _ _ _ (by simpa using Ne.symm hb)).trans c1', (World.cell?_setCell_far _ _ _ _ (by simpa using Ne.symm hb)).trans c2', (World.cell?_setCell_far _ _ _ _ (by simp; omega)).trans hl1', (World.cell?_setCell_far _ _ _ _ (by simp; omega)).trans hl2'⟩ (fun hHeld => ?_)
          clear hK K
          (try simp only [Act.put, List.setIfInBounds_toArray, List.set_cons_zero, List.set_cons_succ, List.getElem_toArray, List.getElem_cons_succ, List.getElem_cons_zero])
          refine wpAnyH_done (by kernel_rfl) ?_ _
          go_wp2_with fail
          refine ⟨⟨j + 1, met, _, _, rfl, (HR.out.2.1.met1 hbk (by rw [← HI.out.2.2.2.1]; exact hjm) HI.out.1 HI.out.2.1 (by rw [← HI.out.2.2.1]; exact HM.out.1) (b := true) (by rw [HM.out.2.1, dec_beq, dec_beq, HM.out.2.2.1, HM.out.2.2.2]; rfl)).below ((Below.refl _ _).drew)⟩, by simp [intOf]; omega⟩
      · rw [decide_eq_false hxm] at hlook
        by_cases hnn : nn ≤ (met.length : Int)
        · have HM := Lib.hid (And.intro hxm hnn); clear hxm
          go_wp2_with fail
          refine bodyPost_ret (results_none rfl _ _ _) rfl ?_
          have hR := HR.out.2.1
          have hgo := hR.go
          rw [markF_cons k l nn g j (by rw [← HI.out.2.2.2.1]; exact hjm) met _ Kc i HI.out.1 _ HI.out.2.1, if_neg (by rw [← HI.out.2.2.1]; exact HM.out.1), if_pos HM.out.2] at hgo
          rw [← hgo]
          exact ⟨rfl, hR.gr, hR.kept⟩
        · have hfew := HR.out.2.1.few
          obtain ⟨w2, hrun, hs2, hg2⟩ := HR.out.2.1.set.add hx.1 hx.2 hxm (by omega)
          have hR := HR.out.2.1
          have hsz := hR.gr.size
          have hsz1 := HR.out.1.gr.size
          have hbw1 : b < w1.heap.size := by omega
          have hbne : (some b : Option Nat) ≠ some w.heap.size := by
            rintro ⟨⟩; omega
          have d0 := (hg2.cell_far ⟨b, off + i * 5, none⟩ hbw1 hbne).trans HR.out.2.2.1
          have d1 := (hg2.cell_far ⟨b, off + i * 5 + 1, none⟩ hbw1 hbne).trans HR.out.2.2.2.1
          have d2 := (hg2.cell_far ⟨b, off + i * 5 + 2, none⟩ hbw1 hbne).trans c2'
          have d3 := (hg2.cell_far ⟨b, off + i * 5 + 3, none⟩ hbw1 hbne).trans HR.out.2.2.2.2.1
          have d4 := (hg2.cell_far ⟨b, off + i * 5 + 4, none⟩ hbw1 hbne).trans HR.out.2.2.2.2.2
          have e2 : w2.heap[bk]? = some (.cells (bools Kc).toArray 4 (0, 0)) := (hg2.block _ (blk_lt hR.kept) (by simp; omega)).trans hR.kept
          have hk := cell_row w2 bk i _ _ e2
          rw [bools_get _ _ (by rw [hR.len]; exact hin)] at hk
          have hfk := frozen_of w2 bk i _ _ e2
          have e3 : w2.heap[w.heap.size + 1]? = some (.cells (rfC la).toArray 39 (0, 0)) := (hg2.block _ (blk_lt hR.lat) (by simp)).trans hR.lat
          have l0 : w2.cell? ⟨w.heap.size + 1, 0, none⟩ = some (.string ⟨la.m.toArray⟩) := cell_row w2 _ 0 _ _ e3
          have l1 : w2.cell? ⟨w.heap.size + 1, 1, none⟩ = some (.int .i64 la.n) := cell_row w2 _ 1 _ _ e3
          have l2 : w2.cell? ⟨w.heap.size + 1, 2, none⟩ = some (.int .i64 la.t) := cell_row w2 _ 2 _ _ e3
          have l3 : w2.cell? ⟨w.heap.size + 1, 3, none⟩ = some (.string ⟨la.nm.toArray⟩) := cell_row w2 _ 3 _ _ e3
          have l4 : w2.cell? ⟨w.heap.size + 1, 4, none⟩ = some (.int .i64 la.til) := cell_row w2 _ 4 _ _ e3
          have lf : ∀ o, w2.frozen? ⟨w.heap.size + 1, o, none⟩ = false := fun o => frozen_of w2 _ o _ _ e3
          have HM := Lib.hid (And.intro hxm (And.intro hnn (And.intro hs2 (And.intro hg2 (And.intro e3 hR))))); clear hxm hs2 hg2 e2 e3 hR hbne
          go_wp2_with fail
          obtain ⟨hxm, hnn', hs2, hg2, e3, hR⟩ := HM.out
          have hF := hR.fresh hbk (by rw [← HI.out.2.2.2.1]; exact hjm) HI.out.1 HI.out.2.1 (by rw [← HI.out.2.2.1]; exact hxm) (by omega) (by rw [← HI.out.2.2.1]; exact hs2) hg2
          refine ⟨⟨j + 1, _, _, _, rfl, hF⟩, by simp [intOf]; omega⟩
    · obtain rfl : j = m := by have := hR.hj; omega
      go_wp2_with fail
      go_end0
      have hgo := hR.go
      rw [List.drop_eq_nil_of_le (by omega)] at hgo
      rw [← hgo]
      exact ⟨rfl, hR.gr, hR.kept⟩
end Go.Proofs.YtmncgnmgdkdhaaaGreatDoor
