/- The walks of spread's why, and of joined's small function. The walk of spread's joined. The walk of spread's joined. -/
import Derived.Test.YtdnebgilkfafhaaGreatDoorSpG1
import Derived.Test.YtdnebgilkfafhaaGreatDoorSpW5
import Derived.Test.YtdnebgilkfafhaaGreatDoorSpF0
import Derived.Test.YtdnebgilkfafhaaGreatDoorPaJ
namespace Go.Proofs.YtdnebgilkfafhaaGreatDoor
open Go.RowKit
set_option linter.unusedVariables false
set_option linter.unusedSimpArgs false
attribute [local go_sem] ba_get ba_cut ba_add
/-- The answers as a list, from the k-th on. -/
def tolFrom (t : Nat → Pl.Told) (k : Nat) : List Pl.Told := ((List.range 5).map t).drop k
theorem tolFrom_step (t : Nat → Pl.Told) {k : Nat} (hk : k < 5) : tolFrom t k = t k :: tolFrom t (k + 1) := by
  unfold tolFrom
  rcases lt5 hk with rfl | rfl | rfl | rfl | rfl <;> rfl
theorem tolFrom_end (t : Nat → Pl.Told) : tolFrom t 5 = [] := rfl
set_option maxRecDepth 100000 in
set_option maxHeartbeats 4000000 in
theorem swhy_any (t : Nat → Pl.Told) (w : World) : Calls Tryz.prog 43 #[.agg (tolL t).toArray] w (RetB (fun v _ => v = .int .i64 ((Pl.whyE ((List.range 5).map t) : Nat) : Int)) w) := by
  obtain ⟨R, hR⟩ : ∃ R, Pl.whyE ((List.range 5).map t) = R := ⟨_, rfl⟩
  rw [hR]
  have HR := Lib.hid (show Pl.whyF (tolFrom t 0) 0 = R from hR)
  clear hR
  obtain ⟨L, hL⟩ : ∃ L, tolL t = L := ⟨_, rfl⟩
  have hiL : (Tryz.prog.info? 78).map (·.size) = some L.length := by rw [← hL]; exact info_tol
  have HL := Lib.hid (And.intro hL hiL)
  rw [hL]
  clear hL hiL
  obtain ⟨N, hN⟩ : ∃ N, w.heap.size = N := ⟨_, rfl⟩
  go_enter Tryz.func43, Tryz.ntmps43
  go_upto_region 1 with (fail)
  generalize hV : World.alloc w _ = V
  have hbV : Below N w V := by rw [← hV, ← hN]; exact (Below.refl _ _).alloc (Nat.le_refl _) _
  have hz : V.heap[N]? = some (.cells L.toArray 78 (0, 0)) := by rw [← hV, ← hN]; exact heap_alloc_new _ _
  have hrg := rangeL hz
  have HV := Lib.hid (And.intro hrg hbV)
  clear hV hz hbV hrg
  try simp only [hN]
  go_upto_region 3 with (with_reducible refine wpList_load_mid rfl 78 _ rfl N 0 rfl L _ HV.out.1 Tryz.underlying78 rfl HL.out.2 ?_)
  go_loopw [3, 7] (fun nv iv wr => ∃ (k n : Nat), k ≤ 5 ∧ n ≤ k ∧ iv = .int .i64 (k : Int) ∧ nv = .int .i64 (n : Int) ∧ Hid (Pl.whyF (tolFrom t k) n = R) ∧ Hid (Below N w wr)) (fun _ iv _ => 5 - (intOf iv).toNat)
  case atStart => exact ⟨0, 0, by omega, by omega, rfl, rfl, HR, HV.out.2⟩
  case round =>
    obtain ⟨k, n, hk, hnk, rfl, rfl, HF, HB⟩ := hrel
    by_cases hk5 : k < 5
    · have hidx := fun W => index_tol t hk5 W
      rw [HL.out.1] at hidx
      have hst := HF.out
      rw [tolFrom_step t hk5] at hst
      obtain ⟨⟨td, te, tg⟩, htk⟩ : ∃ x, t k = x := ⟨_, rfl⟩
      rw [htk] at hidx hst
      simp only [Pl.whyF] at hidx hst
      have HST := Lib.hid hst
      clear hst htk
      obtain ⟨T, hT⟩ : ∃ T, wr.heap.size = T := ⟨_, rfl⟩
      go_upto_region 5 with (fail)
      generalize hW : World.alloc wr _ = W
      have hzW : W.heap[T]? = some (.cells #[.string ⟨td.toArray⟩, .int .i64 (te : Int), .bool tg] 77 (0, 0)) := by rw [← hW, ← hT]; exact heap_alloc_new _ _
      have hbW : Below N w W := by rw [← hW]; exact HB.out.alloc (by rw [← hN]; exact HB.out.size) _
      have t1 : W.cell? ⟨T, 1, none⟩ = some (.int .i64 (te : Int)) := by rw [cell_row W T 1 _ _ hzW]; rfl
      have t2 : W.cell? ⟨T, 2, none⟩ = some (.bool tg) := by rw [cell_row W T 2 _ _ hzW]; rfl
      have HW := Lib.hid hbW
      clear hW hzW hbW
      cases tg with
      | true =>
        have hR17 : R = 17 := by have h := HST.out; simpa using h.symm
        have HR17 := Lib.hid hR17
        clear hR17
        go_wp2_with fail
        go_ret
        exact ⟨_, rfl, by rw [HR17.out]; rfl, by rw [hN]; exact HW.out⟩
      | false =>
        by_cases h9 : te = 9
        · have HN := Lib.hid (show Pl.whyF (tolFrom t (k + 1)) (n + 1) = R by have h := HST.out; simpa [h9] using h)
          have h91 : ((te : Int) == 9) = true := by simp; omega
          clear h9
          have hwn : IntKind.i64.wrap ((n : Int) + 1) = (n : Int) + 1 := by simp [IntKind.wrap, go_sem]; omega
          go_wp2_with fail
          go_roundw
          case rel => exact ⟨k + 1, n + 1, by omega, by omega, ret_i (by omega), ret_i (by omega), HN, HW⟩
          case measure => simp only [intOf]; omega
        · have HN := Lib.hid (show Pl.whyF (tolFrom t (k + 1)) n = R by have h := HST.out; simpa [h9] using h)
          have h91 : ((te : Int) == 9) = false := by simp; omega
          clear h9
          go_wp2_with fail
          go_roundw
          case rel => exact ⟨k + 1, n, by omega, by omega, ret_i (by omega), ret_i (by omega), HN, HW⟩
          case measure => simp only [intOf]; omega
    · obtain rfl : k = 5 := by omega
      have hfin := HF.out
      rw [tolFrom_end] at hfin
      by_cases h3 : 3 ≤ n
      · have hR9 : R = 9 := by rw [← hfin]; unfold Pl.whyF; rw [if_pos h3]
        have HR9 := Lib.hid hR9
        have h31 : (3 : Int) ≤ (n : Int) := by omega
        clear hR9 hfin
        go_wp2_with fail
        go_ret
        exact ⟨_, rfl, by rw [HR9.out]; rfl, by rw [hN]; exact HB.out⟩
      · have hR9 : R = 18 := by rw [← hfin]; unfold Pl.whyF; rw [if_neg h3]
        have HR9 := Lib.hid hR9
        have h31 : ¬ (3 : Int) ≤ (n : Int) := by omega
        clear hR9 hfin
        go_wp2_with fail
        go_ret
        exact ⟨_, rfl, by rw [HR9.out]; rfl, by rw [hN]; exact HB.out⟩
end Go.Proofs.YtdnebgilkfafhaaGreatDoor
namespace Go.Proofs.YtdnebgilkfafhaaGreatDoor
open Go.RowKit
set_option linter.unusedVariables false
set_option linter.unusedSimpArgs false
attribute [local go_sem] ba_get ba_cut ba_add
set_option maxRecDepth 100000 in
theorem one1_any (x y : Pl.Fit5) (w : World) : Calls Tryz.prog 81 #[.agg (fitC x).toArray, .agg (fitC y).toArray] w (RetB (fun v _ => v = .bool (decide (x.size = y.size) && (x.sum == y.sum))) w) := by
  obtain ⟨xs, xm, xi, xd⟩ := x
  obtain ⟨ys, ym, yi, yd⟩ := y
  unfold fitC
  simp only
  by_cases h : xs = ys
  · subst h
    obtain ⟨q, hq⟩ : ∃ q, (xm == ym) = q := ⟨_, rfl⟩
    rw [hq]
    go_enter Tryz.func81, Tryz.ntmps81
    go_wp2_with fail
    go_ret
    exact ⟨_, rfl, by simp [hq], ((Below.refl _ _).alloc (Nat.le_refl _) _).alloc (by simp) _⟩
  · have h1 : ((xs : Int) == (ys : Int)) = false := by simp; omega
    have h2 : decide (xs = ys) = false := decide_eq_false h
    rw [h2]
    clear h h2
    go_enter Tryz.func81, Tryz.ntmps81
    go_wp2_with fail
    go_ret
    exact ⟨_, rfl, by simp, ((Below.refl _ _).alloc (Nat.le_refl _) _).alloc (by simp) _⟩
/-- The loops' plain words. -/
def twoJ (x : Pl.Fit5) (l : List Pl.Fit5) : Option (List UInt8) := (Pl.twoL l).findSome? fun p => Pl.try3 x p.1 p.2
def oneJ (x y : Pl.Fit5) (l : List Pl.Fit5) : Option (List UInt8) := l.findSome? fun z => Pl.try3 x y z
theorem joinedP_cons (x : Pl.Fit5) (r : List Pl.Fit5) : Pl.joinedP (x :: r) = (twoJ x r).or (Pl.joinedP r) := by
  unfold Pl.joinedP twoJ
  rw [Pl.threeL, List.findSome?_append, List.findSome?_map]
  rfl
theorem twoJ_cons (x y : Pl.Fit5) (r : List Pl.Fit5) : twoJ x (y :: r) = (oneJ x y r).or (twoJ x r) := by
  unfold twoJ oneJ
  rw [Pl.twoL, List.findSome?_append, List.findSome?_map]
  rfl
theorem oneJ_cons (x y z : Pl.Fit5) (r : List Pl.Fit5) : oneJ x y (z :: r) = (Pl.try3 x y z).or (oneJ x y r) := by
  unfold oneJ
  rw [List.findSome?_cons]
  cases Pl.try3 x y z <;> rfl
def fitsC (l : List Pl.Fit5) : List Value := l.flatMap fitC
theorem fitsC_len (l : List Pl.Fit5) : (fitsC l).length = l.length * 4 := by
  unfold fitsC
  induction l with
  | nil => rfl
  | cons x r ih => rw [List.flatMap_cons, List.length_append, ih, List.length_cons, show (fitC x).length = 4 from rfl]; omega
theorem fitsC_get : ∀ (l : List Pl.Fit5) (i j : Nat) (h : i < l.length), j < 4 → (fitsC l)[i * 4 + j]? = (fitC l[i])[j]?
  | x :: r, 0, j, h, hj => by
    unfold fitsC
    rw [List.flatMap_cons, List.getElem?_append_left (by show _ < 4; omega)]
    simp
  | x :: r, i + 1, j, h, hj => by
    have ih := fitsC_get r i j (by simpa using h) hj
    unfold fitsC at ih ⊢
    rw [List.flatMap_cons, List.getElem?_append_right (by show 4 ≤ _; omega), show (fitC x).length = 4 from rfl, show (i + 1) * 4 + j - 4 = i * 4 + j by omega, ih]
    rfl
theorem Rd.fit {w : World} {A : Option Addr} {n : Nat} {l : List Pl.Fit5} (h : Rd w 4 A n (fitsC l)) (hn : l.length = n) {i : Nat} (hi : i < n) : ∃ b off, A = some ⟨b, off, none⟩ ∧ b < w.heap.size ∧ w.rangeAt b (off + i * 4) (fitC (l[i]'(by omega))) := by
  obtain ⟨b, off, rfl, hb, hc⟩ := h.all (by omega)
  refine ⟨b, off, rfl, hb, fun j v hv => ?_⟩
  have hj : j < 4 := by
    rcases Nat.lt_or_ge j (fitC (l[i]'(by omega))).length with h | h
    · exact h
    · rw [List.getElem?_eq_none h] at hv; cases hv
  have h2 := hc (i * 4 + j) (by rw [fitsC_len]; omega)
  rw [fitsC_get l i j (by omega) hj, hv] at h2
  rw [show off + i * 4 + j = off + (i * 4 + j) by omega]
  exact h2
end Go.Proofs.YtdnebgilkfafhaaGreatDoor
namespace Go.Proofs.YtdnebgilkfafhaaGreatDoor
open Go.RowKit
set_option linter.unusedVariables false
set_option linter.unusedSimpArgs false
attribute [local go_sem] ba_get ba_cut ba_add
def joinV : Option (List UInt8) → Value
  | none => .tuple #[.string ⟨#[]⟩, .bool false]
  | some d => .tuple #[.string ⟨d.toArray⟩, .bool true]
/-- What is known of what fits. -/
structure FitsOk (l : List Pl.Fit5) : Prop where
  len : l.length ≤ 5
  rise : l.Pairwise fun x y => x.i < y.i
  one : ∀ x ∈ l, 1 ≤ x.i ∧ x.i ≤ 5 ∧ x.size ≤ 65536 ∧ x.data.length = Pl.rowsN x.size
theorem Rd.fit4 {w : World} {A : Option Addr} {n : Nat} {l : List Pl.Fit5} (h : Rd w 4 A n (fitsC l)) (hn : l.length = n) {i : Nat} (hi : i < n) {x : Pl.Fit5} (hx : l[i]? = some x) : ∃ b off, A = some ⟨b, off, none⟩ ∧ b < w.heap.size ∧ w.cell? ⟨b, off + i * 4, none⟩ = some (.int .i64 (x.size : Int)) ∧ w.cell? ⟨b, off + i * 4 + 1, none⟩ = some (.string ⟨x.sum.toArray⟩) ∧ w.cell? ⟨b, off + i * 4 + 2, none⟩ = some (.int .i64 (x.i : Int)) ∧ w.cell? ⟨b, off + i * 4 + 3, none⟩ = some (.string ⟨x.data.toArray⟩) := by
  obtain ⟨b, off, hA, hb, hr⟩ := h.fit hn hi
  rw [List.getElem?_eq_getElem (by omega)] at hx
  injection hx with hx
  rw [hx] at hr
  exact ⟨b, off, hA, hb, hr 0 _ rfl, hr 1 _ rfl, hr 2 _ rfl, hr 3 _ rfl⟩
theorem drop_at {α : Type} {l : List α} {i : Nat} {x : α} (h : l[i]? = some x) : l.drop i = x :: l.drop (i + 1) := by
  have hi : i < l.length := by
    rcases Nat.lt_or_ge i l.length with h1 | h1
    · exact h1
    · rw [List.getElem?_eq_none h1] at h; cases h
  rw [List.getElem?_eq_getElem hi] at h
  injection h with h
  rw [List.drop_eq_getElem_cons hi, h]
theorem range_keep {w w' : World} {b o : Nat} {L : List Value} (h : w.rangeAt b o L) (hb : b < w.heap.size) (hw : Below w.heap.size w w') : w'.rangeAt b o L := fun j v hv => (hw.cell (p := ⟨b, o + j, none⟩) hb).trans (h j v hv)
theorem Rd.fitR {w : World} {b off n : Nat} {l : List Pl.Fit5} (h : Rd w 4 (some ⟨b, off, none⟩) n (fitsC l)) (hn : l.length = n) {i : Nat} (hi : i < n) {x : Pl.Fit5} (hx : l[i]? = some x) : b < w.heap.size ∧ w.rangeAt b (off + i * 4) (fitC x) := by
  obtain ⟨b', off', hA, hb, hr⟩ := h.fit hn hi
  injection hA with hA
  injection hA with e1 e2
  subst e1 e2
  rw [List.getElem?_eq_getElem (by omega)] at hx
  injection hx with hx
  rw [hx] at hr
  exact ⟨hb, hr⟩
theorem three_ways0 : ∀ a b c : Fin 6, 1 ≤ a.val → a.val < b.val → b.val < c.val → (UInt8.ofNat a.val, UInt8.ofNat b.val, UInt8.ofNat c.val) ∈ Pl.ways := by decide +kernel
theorem three_ways {a b c : Nat} (h : c < 6) (h1 : 1 ≤ a) (hab : a < b) (hbc : b < c) : (UInt8.ofNat a, UInt8.ofNat b, UInt8.ofNat c) ∈ Pl.ways := three_ways0 ⟨a, by omega⟩ ⟨b, by omega⟩ ⟨c, h⟩ h1 hab hbc
theorem fit_one (x : Pl.Fit5) : ∀ v ∈ fitC x, v.oneCell' = true := by
  intro v hv
  simp only [fitC, List.mem_cons, List.not_mem_nil, or_false] at hv
  rcases hv with rfl | rfl | rfl | rfl <;> rfl
theorem FitBx.fc {N : Nat} {x : Pl.Fit5} {W : World} (h : FitBx N (fitC x) W) : W.cell? ⟨N, 0, none⟩ = some (.int .i64 (x.size : Int)) ∧ W.cell? ⟨N, 1, none⟩ = some (.string ⟨x.sum.toArray⟩) ∧ W.cell? ⟨N, 2, none⟩ = some (.int .i64 (x.i : Int)) ∧ W.cell? ⟨N, 3, none⟩ = some (.string ⟨x.data.toArray⟩) :=
  ⟨by rw [cell_row W N 0 _ _ h]; rfl, by rw [cell_row W N 1 _ _ h]; rfl, by rw [cell_row W N 2 _ _ h]; rfl, by rw [cell_row W N 3 _ _ h]; rfl⟩
/-- The three blocks of a round. -/
structure ThrBx (T Y Z : Nat) (x y z : Pl.Fit5) (W : World) : Prop where
  t : FitBx T (fitC x) W
  y : FitBx Y (fitC y) W
  z : FitBx Z (fitC z) W
theorem ThrBx.keep {T Y Z : Nat} {x y z : Pl.Fit5} {W W' : World} (h : ThrBx T Y Z x y z W) (hb : Below W.heap.size W W') : ThrBx T Y Z x y z W' := ⟨heap_keep h.t hb, heap_keep h.y hb, heap_keep h.z hb⟩
theorem two_new {w : World} {Y Z : Nat} {W : World} {Ly Lz : List Value} (hy : Ly.length = 4) (hz : Lz.length = 4) (hne : Y ≠ Z) (hY : w.heap.size ≤ Y) (hZ : w.heap.size ≤ Z) (hb : Below w.heap.size w W)
    (h0 : FitBx Y [.int .i64 0, .string ⟨#[]⟩, .int .i64 0, .string ⟨#[]⟩] W) (h1 : FitBx Z [.int .i64 0, .string ⟨#[]⟩, .int .i64 0, .string ⟨#[]⟩] W) :
    FitBx Y Ly (W.setCells Y 0 Ly) ∧ FitBx Z [.int .i64 0, .string ⟨#[]⟩, .int .i64 0, .string ⟨#[]⟩] (W.setCells Y 0 Ly) ∧ FitBx Y Ly ((W.setCells Y 0 Ly).setCells Z 0 Lz) ∧ FitBx Z Lz ((W.setCells Y 0 Ly).setCells Z 0 Lz) ∧ Below w.heap.size w (W.setCells Y 0 Ly) ∧ Below w.heap.size w ((W.setCells Y 0 Ly).setCells Z 0 Lz) := by
  have a1 : FitBx Y Ly (W.setCells Y 0 Ly) := heap_setCells_all h0 (by rw [hy]; rfl)
  have a2 : FitBx Z [.int .i64 0, .string ⟨#[]⟩, .int .i64 0, .string ⟨#[]⟩] (W.setCells Y 0 Ly) := (World.heap_setCells_other W _ _ _ (blk_lt h1) (Ne.symm hne)).trans h1
  have a3 : FitBx Y Ly ((W.setCells Y 0 Ly).setCells Z 0 Lz) := (World.heap_setCells_other _ _ _ _ (blk_lt a1) hne).trans a1
  have a4 : FitBx Z Lz ((W.setCells Y 0 Ly).setCells Z 0 Lz) := heap_setCells_all a2 (by rw [hz]; rfl)
  have b1 : Below w.heap.size w (W.setCells Y 0 Ly) := hb.trans (Lib.below_setCells_w hY _ _ _)
  exact ⟨a1, a2, a3, a4, b1, b1.trans (Lib.below_setCells_w hZ _ _ _)⟩
theorem Rd.newK (w : World) (k n : Nat) (xs : List Value) (t : TypeId) (h : xs.length = n * k) : Rd (w.alloc (.cells xs.toArray t)) k (some ⟨w.heap.size, 0, none⟩) n xs :=
  ⟨h, fun _ => ⟨w.heap.size, 0, rfl, by simp, fun j hj => by simp [go_sem, hj]⟩⟩
theorem rise_at {l : List Pl.Fit5} (h : l.Pairwise fun x y => x.i < y.i) {a b : Nat} (hab : a < b) {x y : Pl.Fit5} (hx : l[a]? = some x) (hy : l[b]? = some y) : x.i < y.i := by
  obtain ⟨ha, rfl⟩ := List.getElem?_eq_some_iff.1 hx
  obtain ⟨hb, rfl⟩ := List.getElem?_eq_some_iff.1 hy
  exact List.pairwise_iff_getElem.1 h a b ha hb hab
theorem toNat_ofNat {n : Nat} (h : n < 256) : (UInt8.ofNat n).toNat = n := by
  rw [UInt8.toNat_ofNat']
  exact Nat.mod_eq_of_lt h
theorem fit_new1 (w : World) : FitBx w.heap.size [.int .i64 0, .string ⟨#[]⟩, .int .i64 0, .string ⟨#[]⟩] ((w.alloc (.cells #[.int .i64 0, .string ⟨#[]⟩, .int .i64 0, .string ⟨#[]⟩] 83)).alloc (.cells #[.int .i64 0, .string ⟨#[]⟩, .int .i64 0, .string ⟨#[]⟩] 83)).drew :=
  (Below.block ((Below.refl _ _).alloc (Nat.le_refl _) _) _ (by simp)).trans (heap_alloc_new w _)
theorem fit_new2 (w : World) : FitBx (w.heap.size + 1) [.int .i64 0, .string ⟨#[]⟩, .int .i64 0, .string ⟨#[]⟩] ((w.alloc (.cells #[.int .i64 0, .string ⟨#[]⟩, .int .i64 0, .string ⟨#[]⟩] 83)).alloc (.cells #[.int .i64 0, .string ⟨#[]⟩, .int .i64 0, .string ⟨#[]⟩] 83)).drew := by
  have h := heap_alloc_new (w.alloc (.cells #[.int .i64 0, .string ⟨#[]⟩, .int .i64 0, .string ⟨#[]⟩] 83)) (.cells #[.int .i64 0, .string ⟨#[]⟩, .int .i64 0, .string ⟨#[]⟩] 83)
  rw [show (w.alloc (.cells #[.int .i64 0, .string ⟨#[]⟩, .int .i64 0, .string ⟨#[]⟩] 83)).heap.size = w.heap.size + 1 by simp] at h
  exact h
set_option maxRecDepth 100000 in
set_option maxHeartbeats 8000000 in
theorem sjoined_any (A : Option Addr) (n c : Nat) (l : List Pl.Fit5) (hl : l.length = n) (hok : FitsOk l) (w : World) (hr : Rd w 4 A n (fitsC l)) (hv : VSp w) :
    Calls Tryz.prog 42 #[.slice A n c] w (RetB (fun v _ => v = joinV (Pl.joinedP l)) w) := by
  obtain ⟨R, hR⟩ : ∃ R, Pl.joinedP l = R := ⟨_, rfl⟩
  rw [hR]
  have hn5 : n ≤ 5 := by rw [← hl]; exact hok.len
  have HH := Lib.hid (And.intro hR (And.intro hl (And.intro hok (And.intro hr hv))))
  clear hR hl hok hr hv
  obtain ⟨N, hN⟩ : ∃ N, w.heap.size = N := ⟨_, rfl⟩
  go_enter Tryz.func42, Tryz.ntmps42
  go_upto_region 3 with (fail)
  go_loopw [16] (fun iv wr => ∃ (i : Nat), i ≤ n ∧ iv = .int .i64 (i : Int) ∧ Hid (Pl.joinedP (l.drop i) = R) ∧ Hid (Below N w wr)) (fun iv _ => n - (intOf iv).toNat)
  case atStart => exact ⟨0, by omega, rfl, HH.out.1, Below.refl _ _⟩
  case round =>
    obtain ⟨i, hi, rfl, HJ, HB⟩ := hrel
    by_cases hin : i < n
    · obtain ⟨x, hx⟩ : ∃ x, l[i]? = some x := ⟨_, List.getElem?_eq_getElem (by rw [HH.out.2.1]; exact hin)⟩
      have hrd : Rd wr 4 A n (fitsC l) := HH.out.2.2.2.1.keep HB.out (by omega)
      obtain ⟨b, off, rfl, hb, x0, x1, x2, x3⟩ := hrd.fit4 HH.out.2.1 hin hx
      obtain ⟨xs, hxs⟩ : ∃ q, x.size = q := ⟨_, rfl⟩
      obtain ⟨xm, hxm⟩ : ∃ q, x.sum = q := ⟨_, rfl⟩
      obtain ⟨xi, hxi⟩ : ∃ q, x.i = q := ⟨_, rfl⟩
      obtain ⟨xd, hxd⟩ : ∃ q, x.data = q := ⟨_, rfl⟩
      rw [hxs] at x0
      rw [hxm] at x1
      rw [hxi] at x2
      rw [hxd] at x3
      have hst := HJ.out
      rw [drop_at hx, joinedP_cons] at hst
      have HX := Lib.hid (And.intro hx (And.intro hst (And.intro hxs (And.intro hxm (And.intro hxi hxd)))))
      clear hx hst hxs hxm hxi hxd hrd
      obtain ⟨T, hT⟩ : ∃ T, wr.heap.size = T := ⟨_, rfl⟩
      have hi0 : (0 : Int) ≤ (i : Int) := by omega
      have hii : (i : Int) < (n : Int) := by omega
      have hwi : IntKind.i64.wrap ((i : Int) + 1) = (i : Int) + 1 := by simp [IntKind.wrap, go_sem]; omega
      go_upto_region 6 with (fail)
      generalize hW : World.alloc wr _ = W1
      have hzT : W1.heap[T]? = some (.cells #[.int .i64 (xs : Int), .string ⟨xm.toArray⟩, .int .i64 (xi : Int), .string ⟨xd.toArray⟩] 83 (0, 0)) := by rw [← hW, ← hT]; exact heap_alloc_new _ _
      have hb1 : Below N w W1 := by rw [← hW]; exact HB.out.alloc (by rw [← hN]; exact HB.out.size) _
      have hTN : N ≤ T := by rw [← hT, ← hN]; exact HB.out.size
      have H1 := Lib.hid (And.intro hzT hb1)
      try simp only [hT]
      clear hW hzT hb1 x0 x1 x2 x3 hb hT
      go_loopw [7] (fun jv wq => ∃ (j : Nat), i + 1 ≤ j ∧ j ≤ n ∧ jv = .int .i64 (j : Int) ∧ Hid ((twoJ x (l.drop j)).or (Pl.joinedP (l.drop (i + 1))) = R) ∧ Hid (wq.heap[T]? = some (.cells #[.int .i64 (xs : Int), .string ⟨xm.toArray⟩, .int .i64 (xi : Int), .string ⟨xd.toArray⟩] 83 (0, 0))) ∧ Hid (Below N w wq)) (fun jv _ => n - (intOf jv).toNat)
      case atStart => exact ⟨i + 1, by omega, by omega, ret_i (by omega), HX.out.2.1, H1.out.1, H1.out.2⟩
      case round =>
        obtain ⟨j, hij, hj, rfl, HJ2, HT2, HB2⟩ := hrel
        by_cases hjn : j < n
        · obtain ⟨y, hy⟩ : ∃ y, l[j]? = some y := ⟨_, List.getElem?_eq_getElem (by rw [HH.out.2.1]; exact hjn)⟩
          have hst := HJ2.out
          rw [drop_at hy, twoJ_cons, Option.or_assoc] at hst
          have HY := Lib.hid (And.intro hy hst)
          clear hy hst
          have hj0 : (0 : Int) ≤ (j : Int) := by omega
          have hjj : (j : Int) < (n : Int) := by omega
          have hwj : IntKind.i64.wrap ((j : Int) + 1) = (j : Int) + 1 := by simp [IntKind.wrap, go_sem]; omega
          go_upto_region 9 with (fail)
          go_loopw [8] (fun kv wq => ∃ (k : Nat), j + 1 ≤ k ∧ k ≤ n ∧ kv = .int .i64 (k : Int) ∧ Hid ((oneJ x y (l.drop k)).or ((twoJ x (l.drop (j + 1))).or (Pl.joinedP (l.drop (i + 1)))) = R) ∧ Hid (wq.heap[T]? = some (.cells #[.int .i64 (xs : Int), .string ⟨xm.toArray⟩, .int .i64 (xi : Int), .string ⟨xd.toArray⟩] 83 (0, 0))) ∧ Hid (Below N w wq)) (fun kv _ => n - (intOf kv).toNat)
          case atStart => exact ⟨j + 1, by omega, by omega, ret_i (by omega), HY.out.2, HT2, HB2⟩
          case round =>
            obtain ⟨k, hjk, hk, rfl, HJ3, HT3, HB3⟩ := hrel
            by_cases hkn : k < n
            · obtain ⟨z, hz⟩ : ∃ z, l[k]? = some z := ⟨_, List.getElem?_eq_getElem (by rw [HH.out.2.1]; exact hkn)⟩
              have hst := HJ3.out
              rw [drop_at hz, oneJ_cons, Option.or_assoc] at hst
              have hk0 : (0 : Int) ≤ (k : Int) := by omega
              have hkk : (k : Int) < (n : Int) := by omega
              have hwk : IntKind.i64.wrap ((k : Int) + 1) = (k : Int) + 1 := by simp [IntKind.wrap, go_sem]; omega
              have HZ := Lib.hid (And.intro hz hst)
              clear hz hst
              have hrdk : Rd wr 4 (some ⟨b, off, none⟩) n (fitsC l) := HH.out.2.2.2.1.keep HB3.out (by omega)
              obtain ⟨hbl, hry⟩ := hrdk.fitR HH.out.2.1 hjn HY.out.1
              obtain ⟨-, hrz⟩ := hrdk.fitR HH.out.2.1 hkn HZ.out.1
              clear hrdk
              obtain ⟨Ly, hLy⟩ : ∃ q, fitC y = q := ⟨_, rfl⟩
              obtain ⟨Lz, hLz⟩ : ∃ q, fitC z = q := ⟨_, rfl⟩
              have hly : Ly.length = 4 := by rw [← hLy]; rfl
              have hlz : Lz.length = 4 := by rw [← hLz]; rfl
              have hoy : ∀ v ∈ Ly, v.oneCell' = true := by rw [← hLy]; exact fit_one y
              have hoz : ∀ v ∈ Lz, v.oneCell' = true := by rw [← hLz]; exact fit_one z
              rw [hLy] at hry
              rw [hLz] at hrz
              have hTx : FitBx T (fitC x) wr := by
                unfold FitBx fitC
                rw [HX.out.2.2.1, HX.out.2.2.2.1, HX.out.2.2.2.2.1, HX.out.2.2.2.2.2]
                exact HT3.out
              have hify : (Tryz.prog.info? 83).map (·.size) = some Ly.toArray.size := by rw [List.size_toArray, hly]; exact info_fit
              have hifz : (Tryz.prog.info? 83).map (·.size) = some Lz.toArray.size := by rw [List.size_toArray, hlz]; exact info_fit
              have HQ := Lib.hid (And.intro hTx (And.intro hLy (And.intro hLz (And.intro hly (And.intro hlz (And.intro hoy (And.intro hoz (And.intro hify hifz))))))))
              have HR := Lib.hid (And.intro hry hrz)
              clear hTx hLy hLz hly hlz hoy hoz hify hifz hry hrz
              obtain ⟨U, hU⟩ : ∃ U, U = wr.heap.size := ⟨_, rfl⟩
              have hbl : b < wr.heap.size := hbl
              go_upto_region 11 with (fail)
              refine wp_region_held_drew (S := (fun w' => Below U wr w')) (by kernel_rfl) (by rw [hU]; exact (Below.refl _ _).drew) (fun hHeld => ?_)
              refine tk 0 (v := ?_) rfl ?_ hHeld ?_
              rotate_left
              · (intro w' hSw; (try dsimp only at hSw); go_simp; try with_reducible rfl)
              simp only [Act.put, lay9]
              refine tk 1 (v := ?_) rfl ?_ hHeld ?_
              rotate_left
              · (intro w' hSw; (try dsimp only at hSw); go_simp; try with_reducible rfl)
              simp only [Act.put, lay9]
              refine tk 2 (v := ?_) rfl ?_ hHeld ?_
              rotate_left
              · (intro w' hSw; (try dsimp only at hSw); go_simp; try with_reducible rfl)
              simp only [Act.put, lay9]
              refine wpAnyH_take (i := 3) (v := .agg (Ly).toArray) rfl (by kernel_rfl) (by kernel_rfl) (by kernel_rfl) (fun _ _ _ h => h) (yieldsIf_load_mid (by kernel_rfl) 83 _ rfl (b) (off + j * 4) rfl Ly _ (fun _ h => range_keep HR.out.1 hbl (hU ▸ h)) Tryz.underlying83 rfl HQ.out.2.2.2.2.2.2.2.1) hHeld ?_
              simp only [Act.put, lay9]
              refine tk 4 (v := ?_) rfl ?_ hHeld ?_
              rotate_left
              · (intro w' hSw; (try dsimp only at hSw); go_simp; try with_reducible rfl)
              simp only [Act.put, lay9]
              refine tk 5 (v := ?_) rfl ?_ hHeld ?_
              rotate_left
              · (intro w' hSw; (try dsimp only at hSw); go_simp; try with_reducible rfl)
              simp only [Act.put, lay9]
              refine tk 6 (v := ?_) rfl ?_ hHeld ?_
              rotate_left
              · (intro w' hSw; (try dsimp only at hSw); go_simp; try with_reducible rfl)
              simp only [Act.put, lay9]
              refine wpAnyH_take (i := 7) (v := .agg (Lz).toArray) rfl (by kernel_rfl) (by kernel_rfl) (by kernel_rfl) (fun _ _ _ h => h) (yieldsIf_load_mid (by kernel_rfl) 83 _ rfl (b) (off + k * 4) rfl Lz _ (fun _ h => range_keep HR.out.2 hbl (hU ▸ h)) Tryz.underlying83 rfl HQ.out.2.2.2.2.2.2.2.2) hHeld ?_
              simp only [Act.put, lay9]
              refine wpAnyH_ready (rs := [8, 9]) (by kernel_rfl) (by simp) (AllReadyH.cons rfl (fun K hK => ?wa) (AllReadyH.cons rfl (fun K hK => ?wb) AllReadyH.nil))
              case' wa =>
                go_simp
                refine hK.out _ _ (by rw [hU]; exact ((Below.refl _ _).alloc (Nat.le_refl _) _).drew) (fun hHeld => ?_)
                clear hK K
                (try simp only [Act.put, lay9])
                refine wpAnyH_ready (rs := [9]) (by kernel_rfl) (by simp) (AllReadyH.cons rfl (fun K hK => ?_) AllReadyH.nil)
                go_simp
              case' wb =>
                go_simp
                refine hK.out _ _ (by rw [hU]; exact ((Below.refl _ _).alloc (Nat.le_refl _) _).drew) (fun hHeld => ?_)
                clear hK K
                (try simp only [Act.put, lay9])
                refine wpAnyH_ready (rs := [8]) (by kernel_rfl) (by simp) (AllReadyH.cons rfl (fun K hK => ?_) AllReadyH.nil)
                go_simp
              case' wa | wb =>
                generalize hW2 : World.drew _ = W2
                have h0 : FitBx wr.heap.size [.int .i64 0, .string ⟨#[]⟩, .int .i64 0, .string ⟨#[]⟩] W2 := by rw [← hW2]; exact fit_new1 wr
                have h1 : FitBx (wr.heap.size + 1) [.int .i64 0, .string ⟨#[]⟩, .int .i64 0, .string ⟨#[]⟩] W2 := by rw [← hW2]; exact fit_new2 wr
                have hb2 : Below wr.heap.size wr W2 := by rw [← hW2]; exact (((Below.refl _ _).alloc (Nat.le_refl _) _).alloc (by simp) _).drew
                clear hW2
                refine hK.out _ _ (by rw [hU]; exact hb2) (fun hHeld => ?_)
                clear hK K
                (try simp only [Act.put, lay9])
              case' wa =>
                generalize hZ : wr.heap.size + 1 = Z at h1 ⊢
                generalize hY : wr.heap.size = Y at h0 ⊢
                have hYZ : wr.heap.size ≤ Y ∧ wr.heap.size ≤ Z ∧ Y ≠ Z := by omega
              case' wb =>
                generalize hY : wr.heap.size + 1 = Y at h1 ⊢
                generalize hZ : wr.heap.size = Z at h0 ⊢
                have hYZ : wr.heap.size ≤ Y ∧ wr.heap.size ≤ Z ∧ Y ≠ Z := by omega
              case' wa => have HN := Lib.hid (two_new HQ.out.2.2.2.1 HQ.out.2.2.2.2.1 hYZ.2.2 hYZ.1 hYZ.2.1 hb2 h0 h1)
              case' wb => have HN := Lib.hid (two_new HQ.out.2.2.2.1 HQ.out.2.2.2.2.1 hYZ.2.2 hYZ.1 hYZ.2.1 hb2 h1 h0)
              case' wa => have HT := Lib.hid (And.intro (thereL (n := Ly.toArray.size) h0 (by rw [List.size_toArray, HQ.out.2.2.2.1]; exact Nat.le_refl _)) (thereL (n := Lz.toArray.size) HN.out.2.1 (by rw [List.size_toArray, HQ.out.2.2.2.2.1]; exact Nat.le_refl _)))
              case' wb => have HT := Lib.hid (And.intro (thereL (n := Ly.toArray.size) h1 (by rw [List.size_toArray, HQ.out.2.2.2.1]; exact Nat.le_refl _)) (thereL (n := Lz.toArray.size) HN.out.2.1 (by rw [List.size_toArray, HQ.out.2.2.2.2.1]; exact Nat.le_refl _)))
              case' wa | wb =>
                clear h0 h1 hY hZ
                refine wpAnyH_ready (rs := [10]) (by kernel_rfl) (by simp) (AllReadyH.cons rfl (fun K hK => ?_) AllReadyH.nil)
                refine wp_store_mid 83 _ _ rfl Y 0 Ly.toArray rfl rfl HT.out.1 HQ.out.2.2.2.2.2.2.2.1 (all_oneCell_toArray HQ.out.2.2.2.2.2.1) ?_
                refine hK.out _ _ (by rw [hU]; exact HN.out.2.2.2.2.1) (fun hHeld => ?_)
                clear hK K
                (try simp only [Act.put, lay9])
                refine wpAnyH_ready (rs := [11]) (by kernel_rfl) (by simp) (AllReadyH.cons rfl (fun K hK => ?_) AllReadyH.nil)
                refine wp_store_mid 83 _ _ rfl Z 0 Lz.toArray rfl rfl HT.out.2 HQ.out.2.2.2.2.2.2.2.2 (all_oneCell_toArray HQ.out.2.2.2.2.2.2.1) ?_
                refine hK.out _ _ (by rw [hU]; exact HN.out.2.2.2.2.2) (fun hHeld => ?_)
                clear hK K
                (try simp only [Act.put, lay9])
                refine wpAnyH_done (by kernel_rfl) ?_ _
                generalize hW3 : World.setCells _ _ _ _ = W3
                have hbr : Below wr.heap.size wr W3 := by rw [← hW3]; exact HN.out.2.2.2.2.2
                have hT3 : ThrBx T Y Z x y z W3 := ⟨heap_keep HQ.out.1 hbr, by rw [← hW3, HQ.out.2.1]; exact HN.out.2.2.1, by rw [← hW3, HQ.out.2.2.1]; exact HN.out.2.2.2.1⟩
                have hb3 : Below N w W3 := HB3.out.trans (hbr.mono (by have := HB3.out.size; omega))
                have hlit : ∀ W, FitBx T (fitC x) W → W.heap[T]? = some (.cells #[.int .i64 (xs : Int), .string ⟨xm.toArray⟩, .int .i64 (xi : Int), .string ⟨xd.toArray⟩] 83 (0, 0)) := fun W h => by
                  unfold FitBx fitC at h
                  rw [HX.out.2.2.1, HX.out.2.2.2.1, HX.out.2.2.2.2.1, HX.out.2.2.2.2.2] at h
                  exact h
                have H3 := Lib.hid (And.intro hT3 (And.intro hb3 hlit))
                clear hW3 hbr hT3 hb3 hlit hHeld HN HT hYZ hb2 HR HQ hU
                obtain ⟨q1, hq1⟩ : ∃ q, (decide (x.size = y.size) && (x.sum == y.sum)) = q := ⟨_, rfl⟩
                obtain ⟨q2, hq2⟩ : ∃ q, (decide (x.size = z.size) && (x.sum == z.sum)) = q := ⟨_, rfl⟩
                have hc1 := fun W => one1_any x y W
                have hc2 := fun W => one1_any x z W
                rw [hq1] at hc1
                rw [hq2] at hc2
                unfold fitC at hc1 hc2
                have HC := Lib.hid (And.intro hc1 (And.intro hc2 (And.intro hq1 hq2)))
                clear hc1 hc2 hq1 hq2
                obtain ⟨t0, t1, t2, t3⟩ := H3.out.1.t.fc
                obtain ⟨y0, y1, y2, y3⟩ := H3.out.1.y.fc
                go_upto_region 13 with (with_reducible refine (HC.out.1 W3).mono ?_)
                rintro _ W4 ⟨v, rfl, rfl, hb4⟩
                have H4 := Lib.hid (And.intro (H3.out.1.keep hb4) (H3.out.2.1.trans (hb4.mono (by have := H3.out.2.1.size; omega))))
                clear hb4 t0 t1 t2 t3 y0 y1 y2 y3
                cases q1 with
                | false =>
                  have hn3 : Pl.try3 x y z = none := by
                    have h := HC.out.2.2.1
                    unfold Pl.try3
                    rw [if_neg]
                    rintro ⟨e1, e2, -, -⟩
                    simp [e1, e2] at h
                  have HS := Lib.hid (show (oneJ x y (List.drop (k + 1) l)).or ((twoJ x (List.drop (j + 1) l)).or (Pl.joinedP (List.drop (i + 1) l))) = R by have h := HZ.out.2; rw [hn3] at h; exact h)
                  clear hn3
                  go_wp2_with fail
                  go_roundw
                  case rel => exact ⟨k + 1, by omega, by omega, ret_i (by omega), HS, H3.out.2.2 _ H4.out.1.t, H4.out.2⟩
                  case measure => simp only [intOf]; omega
                | true =>
                  obtain ⟨t0, t1, t2, t3⟩ := H4.out.1.t.fc
                  obtain ⟨z0, z1, z2, z3⟩ := H4.out.1.z.fc
                  go_upto_region 13 with (with_reducible refine (HC.out.2.1 W4).mono ?_)
                  rintro _ W5 ⟨v, rfl, rfl, hb5⟩
                  have H5 := Lib.hid (And.intro (H4.out.1.keep hb5) (H4.out.2.trans (hb5.mono (by have := H4.out.2.size; omega))))
                  clear hb5 t0 t1 t2 t3 z0 z1 z2 z3
                  cases q2 with
                  | false =>
                    have hn3 : Pl.try3 x y z = none := by
                      have h := HC.out.2.2.2
                      unfold Pl.try3
                      rw [if_neg]
                      rintro ⟨-, -, e1, e2⟩
                      simp [e1, e2] at h
                    have HS := Lib.hid (show (oneJ x y (List.drop (k + 1) l)).or ((twoJ x (List.drop (j + 1) l)).or (Pl.joinedP (List.drop (i + 1) l))) = R by have h := HZ.out.2; rw [hn3] at h; exact h)
                    clear hn3
                    go_wp2_with fail
                    go_roundw
                    case rel => exact ⟨k + 1, by omega, by omega, ret_i (by omega), HS, H3.out.2.2 _ H5.out.1.t, H5.out.2⟩
                    case measure => simp only [intOf]; omega
                  | true =>
                    obtain ⟨t0, t1, t2, t3⟩ := H5.out.1.t.fc
                    obtain ⟨y0, y1, y2, y3⟩ := H5.out.1.y.fc
                    obtain ⟨z0, z1, z2, z3⟩ := H5.out.1.z.fc
                    have hTl : T < W5.heap.size := blk_lt H5.out.1.t
                    have hq1 := HC.out.2.2.1
                    have hq2 := HC.out.2.2.2
                    have hxy : x.size = y.size ∧ x.sum = y.sum := by simpa using hq1
                    have hxz : x.size = z.size ∧ x.sum = z.sum := by simpa using hq2
                    clear hq1 hq2
                    have hxl := HX.out.1
                    have hyl := HY.out.1
                    have hzl := HZ.out.1
                    obtain ⟨ox1, ox2, ox3, ox4⟩ := HH.out.2.2.1.one x (List.mem_of_getElem? hxl)
                    obtain ⟨oy1, oy2, oy3, oy4⟩ := HH.out.2.2.1.one y (List.mem_of_getElem? hyl)
                    obtain ⟨oz1, oz2, oz3, oz4⟩ := HH.out.2.2.1.one z (List.mem_of_getElem? hzl)
                    have rxy : x.i < y.i := rise_at HH.out.2.2.1.rise (by omega) hxl hyl
                    have ryz : y.i < z.i := rise_at HH.out.2.2.1.rise (by omega) hyl hzl
                    obtain ⟨D, hD⟩ : ∃ D, Pl.joinP (UInt8.ofNat x.i, UInt8.ofNat y.i, UInt8.ofNat z.i) x.data y.data z.data x.size = D := ⟨_, rfl⟩
                    have hjoin : Calls Tryz.prog 82 #[.slice (some ⟨W5.heap.size, 0, none⟩) 3 3, .int .i64 (x.size : Int)] (W5.alloc (.cells #[.int .i64 (x.i : Int), .string ⟨x.data.toArray⟩, .int .i64 (y.i : Int), .string ⟨y.data.toArray⟩, .int .i64 (z.i : Int), .string ⟨z.data.toArray⟩] 71)) _ :=
                      join_any (UInt8.ofNat x.i) (UInt8.ofNat y.i) (UInt8.ofNat z.i) (three_ways (by omega) ox1 rxy ryz) x.data y.data z.data x.size (Pl.rowsN x.size) ox3 rfl ox4 (by rw [oy4, ← hxy.1]) (by rw [oz4, ← hxz.1]) (some ⟨W5.heap.size, 0, none⟩) 3 (W5.alloc (.cells #[.int .i64 (x.i : Int), .string ⟨x.data.toArray⟩, .int .i64 (y.i : Int), .string ⟨y.data.toArray⟩, .int .i64 (z.i : Int), .string ⟨z.data.toArray⟩] 71))
                        (by
                          have h := Rd.newK W5 2 3 [.int .i64 (x.i : Int), .string ⟨x.data.toArray⟩, .int .i64 (y.i : Int), .string ⟨y.data.toArray⟩, .int .i64 (z.i : Int), .string ⟨z.data.toArray⟩] 71 rfl
                          unfold thrC
                          rw [toNat_ofNat (by omega : x.i < 256), toNat_ofNat (by omega : y.i < 256), toNat_ofNat (by omega : z.i < 256)]
                          exact h)
                    rw [hD] at hjoin
                    have hDl : D.length ≤ 65536 := by rw [← hD]; unfold Pl.joinP; rw [List.length_take]; omega
                    have HJn := Lib.hid (And.intro hjoin (And.intro hD (And.intro hDl (And.intro hxy hxz))))
                    clear hjoin hD hDl hxy hxz hxl hyl hzl ox1 ox2 ox3 ox4 oy1 oy2 oy3 oy4 oz1 oz2 oz3 oz4 rxy ryz
                    go_upto_region 14 with (with_reducible refine HJn.out.1.mono ?_)
                    rintro _ W6 ⟨v, rfl, rfl, hb6⟩
                    have hb56 : Below W5.heap.size W5 W6 := ((Below.refl _ _).alloc (Nat.le_refl _) _).trans (hb6.mono (by simp))
                    have H6 := Lib.hid (And.intro (H5.out.1.keep hb56) (H5.out.2.trans (hb56.mono (by have := H5.out.2.size; omega))))
                    clear hb6 hb56 t0 t1 t2 t3 y0 y1 y2 y3 z0 z1 z2 z3 hTl
                    obtain ⟨M, hM⟩ : ∃ M, M = Pl.sumB [D] := ⟨_, rfl⟩
                    have hml : M.length = 32 := by rw [hM]; exact sum_len _
                    obtain ⟨Lo, hLo⟩ : ∃ Lo, u8s M = Lo := ⟨_, rfl⟩
                    have hv6 := HH.out.2.2.2.2.below (by rw [hN]; exact H6.out.2)
                    have hsum : Calls Tryz.prog 34 #[.slice (some ⟨W6.heap.size, 0, none⟩) 1 1] (W6.alloc (.cells #[.string ⟨D.toArray⟩] 9)) _ := sum_any (some ⟨W6.heap.size, 0, none⟩) [D] 1 (fun q hq => by rw [List.mem_singleton.1 hq]; have := HJn.out.2.2.1; omega) (by simp) (W6.alloc (.cells #[.string ⟨D.toArray⟩] 9)) (Rd.new W6 [.string ⟨D.toArray⟩] 9) (hv6.hash.below ((Below.refl _ _).alloc (Nat.le_refl _) _))
                    rw [← hM, hLo] at hsum
                    have hio : (Tryz.prog.info? 42).map (·.size) = some Lo.toArray.size := by rw [List.size_toArray, ← hLo, u8s_len, hml]; kernel_rfl
                    have hoo : ∀ v ∈ Lo, v.oneCell' = true := by rw [← hLo]; exact u8s_one M
                    have HS := Lib.hid (And.intro hsum (And.intro hio (And.intro hoo (And.intro hLo (And.intro hml hM)))))
                    clear hsum hio hoo hLo hml hM hv6
                    go_upto_region 16 with first
                      | (with_reducible refine HS.out.1.mono ?_)
                    rintro e W7 ⟨rfl, hb7⟩
                    have hb67 : Below W6.heap.size W6 W7 := (((Below.refl _ _).alloc (Nat.le_refl _) (.cells #[.string ⟨D.toArray⟩] 9)) : Below W6.heap.size W6 (W6.alloc (.cells #[.string ⟨D.toArray⟩] 9))).trans (hb7.mono (by simp))
                    have H7 := Lib.hid (And.intro (H6.out.1.keep hb67) (H6.out.2.trans (hb67.mono (by have := H6.out.2.size; omega))))
                    have HTh := Lib.hid (show (W7.alloc (.cells z32 42)).there W7.heap.size 0 Lo.toArray.size from thereL (heap_alloc_new W7 _) (by rw [z32_eq, List.size_toArray, List.size_toArray, ← HS.out.2.2.2.1, u8s_len, u8s_len, HS.out.2.2.2.2.1]; simp))
                    clear hb7 hb67
                    go_upto_region 16 with (with_reducible refine wpList_store_mid rfl 42 _ _ rfl W7.heap.size 0 Lo.toArray rfl rfl HTh.out HS.out.2.1 (all_oneCell_toArray HS.out.2.2.1) ?_)
                    obtain ⟨G, hG⟩ : ∃ G, W7.heap.size = G := ⟨_, rfl⟩
                    have hg8 : DigAt G M ((W7.alloc (.cells z32 42)).setCells G 0 Lo) := by
                      unfold DigAt
                      rw [HS.out.2.2.2.1, ← hG]
                      exact heap_setCells_all (C := u8s (List.replicate 32 0)) (heap_alloc_new W7 _) (by rw [← HS.out.2.2.2.1, u8s_len, u8s_len, HS.out.2.2.2.2.1]; simp)
                    have hb78 : Below W7.heap.size W7 ((W7.alloc (.cells z32 42)).setCells G 0 Lo) := ((Below.refl _ _).alloc (Nat.le_refl _) _).trans (Lib.below_setCells_w (by omega) Lo 0 _)
                    have h8 := H7.out.1.keep hb78
                    have hw8 : Below N w ((W7.alloc (.cells z32 42)).setCells G 0 Lo) := H7.out.2.trans (hb78.mono (by have := H7.out.2.size; omega))
                    simp only [hG]
                    generalize hW8 : World.setCells _ G 0 _ = W8
                    rw [show (World.setCells (World.alloc W7 (.cells z32 42)) G 0 Lo) = W8 from hW8] at hg8 h8 hw8
                    obtain ⟨t0, t1, t2, t3⟩ := h8.t.fc
                    have hml := HS.out.2.2.2.2.1
                    have H8 := Lib.hid (And.intro hg8 (And.intro h8 hw8))
                    clear hG hg8 hb78 h8 hw8 hW8 HTh t0 t2 t3
                    by_cases hsm : M = x.sum
                    · have htr : Pl.try3 x y z = some D := by
                        unfold Pl.try3
                        rw [if_pos ⟨HJn.out.2.2.2.1.1, HJn.out.2.2.2.1.2, HJn.out.2.2.2.2.1, HJn.out.2.2.2.2.2⟩, HJn.out.2.1, ← HS.out.2.2.2.2.2, if_pos hsm]
                      have HF := Lib.hid (show R = some D by have h := HZ.out.2; rw [htr] at h; exact h.symm)
                      have hqm : (M == x.sum) = true := by rw [beq_iff_eq]; exact hsm
                      clear hsm htr
                      refine wp_region_held_drew (S := (fun w' => DigAt G M w' ∧ w'.cell? ⟨T, 1, none⟩ = some (.string ⟨x.sum.toArray⟩))) (by kernel_rfl) (by exact ⟨H8.out.1, t1⟩) (fun hHeld => ?_)
                      refine tk 0 (v := ?_) rfl ?_ hHeld ?_
                      rotate_left
                      · (intro w' hSw; (try dsimp only at hSw); (try obtain ⟨hS0, hS1⟩ := hSw); go_simp; try with_reducible rfl)
                      simp only [Act.put, lay9]
                      refine tk 2 (v := ?_) rfl ?_ hHeld ?_
                      rotate_left
                      · (intro w' hSw; (try dsimp only at hSw); (try obtain ⟨hS0, hS1⟩ := hSw); go_simp; try with_reducible rfl)
                      simp only [Act.put, lay9]
                      refine tk 3 (v := ?_) rfl ?_ hHeld ?_
                      rotate_left
                      · (intro w' hSw; (try dsimp only at hSw); (try obtain ⟨hS0, hS1⟩ := hSw); go_simp; try with_reducible rfl)
                      simp only [Act.put, lay9]
                      refine tk 1 (v := ?_) rfl ?_ hHeld ?_
                      rotate_left
                      · (intro w' hSw; (try dsimp only at hSw); have hcv := dig_conv hSw.1 hml; go_simp; try with_reducible rfl)
                      simp only [Act.put, lay9]
                      refine tk 4 (v := ?_) rfl ?_ hHeld ?_
                      rotate_left
                      · (intro w' hSw; (try dsimp only at hSw); (try obtain ⟨hS0, hS1⟩ := hSw); go_simp; try with_reducible rfl)
                      simp only [Act.put, lay9]
                      refine wpAnyH_done (by kernel_rfl) ?_ _
                      go_wp2_with fail
                      go_ret2
                      exact ⟨_, rfl, by rw [HF.out]; rfl, by rw [hN]; exact H8.out.2.2.trans (Below.refl _ _).drew⟩
                    · have htr : Pl.try3 x y z = none := by
                        unfold Pl.try3
                        rw [if_pos ⟨HJn.out.2.2.2.1.1, HJn.out.2.2.2.1.2, HJn.out.2.2.2.2.1, HJn.out.2.2.2.2.2⟩, HJn.out.2.1, ← HS.out.2.2.2.2.2, if_neg hsm]
                      have HF := Lib.hid (show (oneJ x y (List.drop (k + 1) l)).or ((twoJ x (List.drop (j + 1) l)).or (Pl.joinedP (List.drop (i + 1) l))) = R by have h := HZ.out.2; rw [htr] at h; exact h)
                      have hqm : (M == x.sum) = false := by rw [beq_eq_false_iff_ne]; exact hsm
                      clear hsm htr
                      refine wp_region_held_drew (S := (fun w' => DigAt G M w' ∧ w'.cell? ⟨T, 1, none⟩ = some (.string ⟨x.sum.toArray⟩))) (by kernel_rfl) (by exact ⟨H8.out.1, t1⟩) (fun hHeld => ?_)
                      refine tk 0 (v := ?_) rfl ?_ hHeld ?_
                      rotate_left
                      · (intro w' hSw; (try dsimp only at hSw); (try obtain ⟨hS0, hS1⟩ := hSw); go_simp; try with_reducible rfl)
                      simp only [Act.put, lay9]
                      refine tk 2 (v := ?_) rfl ?_ hHeld ?_
                      rotate_left
                      · (intro w' hSw; (try dsimp only at hSw); (try obtain ⟨hS0, hS1⟩ := hSw); go_simp; try with_reducible rfl)
                      simp only [Act.put, lay9]
                      refine tk 3 (v := ?_) rfl ?_ hHeld ?_
                      rotate_left
                      · (intro w' hSw; (try dsimp only at hSw); (try obtain ⟨hS0, hS1⟩ := hSw); go_simp; try with_reducible rfl)
                      simp only [Act.put, lay9]
                      refine tk 1 (v := ?_) rfl ?_ hHeld ?_
                      rotate_left
                      · (intro w' hSw; (try dsimp only at hSw); have hcv := dig_conv hSw.1 hml; go_simp; try with_reducible rfl)
                      simp only [Act.put, lay9]
                      refine tk 4 (v := ?_) rfl ?_ hHeld ?_
                      rotate_left
                      · (intro w' hSw; (try dsimp only at hSw); (try obtain ⟨hS0, hS1⟩ := hSw); go_simp; try with_reducible rfl)
                      simp only [Act.put, lay9]
                      refine wpAnyH_done (by kernel_rfl) ?_ _
                      go_wp2_with fail
                      go_roundw
                      case rel => exact ⟨k + 1, by omega, by omega, ret_i (by omega), HF, H3.out.2.2 _ H8.out.2.1.t, H8.out.2.2.trans (Below.refl _ _).drew⟩
                      case measure => simp only [intOf]; omega
            · obtain rfl : k = n := by omega
              have hst := HJ3.out
              rw [List.drop_of_length_le (by rw [HH.out.2.1]; exact Nat.le_refl _)] at hst
              have HE := Lib.hid (show (twoJ x (l.drop (j + 1))).or (Pl.joinedP (l.drop (i + 1))) = R from hst)
              clear hst
              go_wp2_with fail
              go_roundw
              case rel => exact ⟨j + 1, by omega, by omega, ret_i (by omega), HE, HT3, HB3⟩
              case measure => simp only [intOf]; omega
        · obtain rfl : j = n := by omega
          have hst := HJ2.out
          rw [List.drop_of_length_le (by rw [HH.out.2.1]; exact Nat.le_refl _)] at hst
          have HE := Lib.hid (show Pl.joinedP (l.drop (i + 1)) = R from hst)
          clear hst
          go_wp2_with fail
          go_roundw
          case rel => exact ⟨i + 1, by omega, ret_i (by omega), HE, HB2⟩
          case measure => simp only [intOf]; omega
    · obtain rfl : i = n := by omega
      have hst := HJ.out
      rw [List.drop_of_length_le (by rw [HH.out.2.1]; exact Nat.le_refl _)] at hst
      have HE := Lib.hid (show R = none from hst.symm)
      clear hst
      go_wp2_with fail
      go_ret2
      exact ⟨_, rfl, by rw [HE.out]; rfl, by rw [hN]; exact HB.out⟩
end Go.Proofs.YtdnebgilkfafhaaGreatDoor
