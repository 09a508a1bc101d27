/- AsmBack: a program's list makes it. -/
import Derived.Test.YtmmnkoeajdeldaaGreatDoorAsLaid
import Derived.Test.YtmmnkoeajdeldaaGreatDoorShaped
import Derived.Test.YtmmnkoeajdeldaaGreatDoorTie
import Derived.Test.YtmmnkoeajdeldaaGreatDoorCards
import Derived.Test.YtmmnkoeajdeldaaGreatDoorAsLt
import Derived.Test.YtmmnkoeajdeldaaGreatDoorAsEq3
import Derived.Test.YtmmnkoeajdeldaaGreatDoorOpenX
namespace Go.Proofs.YtmmnkoeajdeldaaGreatDoor
open Go.ChangeShapes Go.WideShapes Go.ChangeAt Go.RowKit
set_option linter.unusedVariables false
set_option linter.unusedSimpArgs false
attribute [local go_sem] ba_get ba_cut ba_add
set_option maxRecDepth 100000 in
theorem great_any (A : Option Addr) (c : Nat) (X : Pl.Exe) (w : World) (h : XeOk X) : Calls Tryz.prog 15 #[xeV A c X] w (RetB (fun v _ => v = .int .i64 (if 200 < X.text.length ∨ 9000 < X.data.length then 1 else 0)) w) := by
  obtain ⟨t, d, ro, en⟩ := X
  obtain ⟨h1, h2, -, -, -, -⟩ := h
  unfold xeV
  dsimp only at h1 h2 ⊢
  obtain ⟨n, hn⟩ : ∃ n, t.length = n := ⟨_, rfl⟩
  rw [hn] at h1 ⊢
  clear hn
  go_enter Tryz.func15, Tryz.ntmps15
  by_cases c1 : 200 < n
  · go_wp2_with fail
    go_ret
    exact ⟨_, rfl, (by first | rfl | (rw [if_pos (.inl c1)]; rfl)), (Below.refl _ _).alloc (Nat.le_refl _) _⟩
  by_cases c2 : 9000 < d.length
  · go_wp2_with fail
    go_ret
    exact ⟨_, rfl, (by first | rfl | (rw [if_pos (.inr c2)]; rfl)), (Below.refl _ _).alloc (Nat.le_refl _) _⟩
  · go_wp2_with fail
    go_ret
    exact ⟨_, rfl, (by first | rfl | (rw [if_neg (by omega)]; rfl)), (Below.refl _ _).alloc (Nat.le_refl _) _⟩
theorem xeOk_of {Y : Pl.Exe} (h : Pl.MkOk Y) : XeOk Y := ⟨by have := h.t; omega, by have := h.d; omega, by have := h.r0; omega, by have := h.r1; omega, by have := h.e; omega, h.w⟩
theorem xeOk_res (t : List UInt8) : XeOk (Pl.resE (Pl.mkP t)).1 := by
  cases h : Pl.mkP t with
  | error e => exact ⟨of_decide_eq_true rfl, of_decide_eq_true rfl, of_decide_eq_true rfl, of_decide_eq_true rfl, of_decide_eq_true rfl, fun y hy => (by cases hy)⟩
  | ok Y => exact xeOk_of (Pl.mk_ok h)
/-- A program's list, if it has one, makes it. -/
theorem back_of {P : Pl.Exe} (h : XeOk P) (hl : Pl.listT P ≠ []) : Pl.mkP (Pl.listT P) = .ok P ∧ (Pl.listT P).length ≤ 65536 := by
  unfold Pl.listT at hl ⊢
  by_cases hb : Pl.listB P = true
  · rw [if_pos hb]
    exact Pl.mk_list P h.w hb
  · rw [if_neg hb] at hl; exact absurd rfl hl
theorem list_len {P : Pl.Exe} (h : XeOk P) : (Pl.listT P).length ≤ 65536 := by
  by_cases hl : Pl.listT P = []
  · rw [hl]; exact of_decide_eq_true rfl
  · exact (back_of h hl).2
set_option maxRecDepth 100000 in
set_option maxHeartbeats 4000000 in
theorem asmBack_walk (A : Option Addr) (c : Nat) (X : Pl.Exe) (t : List UInt8) (w : World) (hr : Rd w 1 A X.text.length (w32s X.text)) (hx : XeOk X) (ht : t.length ≤ 140737488355328) (hv : VLaw w) :
    Calls Tryz.prog 6 #[xeV A c X, .string ⟨t.toArray⟩] w (RetB (fun v _ => v = .bool true) w) := by
  have hgr := fun W => great_any A c X W hx
  obtain ⟨g, hg⟩ : ∃ g : Bool, decide (200 < X.text.length ∨ 9000 < X.data.length) = g := ⟨_, rfl⟩
  have e1 : (if 200 < X.text.length ∨ 9000 < X.data.length then (1 : Int) else 0) = if g then 1 else 0 := by
    rw [← hg]; by_cases h : 200 < X.text.length ∨ 9000 < X.data.length <;> simp [h]
  rw [e1] at hgr
  have hli := fun W (hb : Below w.heap.size w W) => list_any A c X W hx (hr.below hb) (hv.below hb)
  have hbk := fun hl => back_of hx hl
  have hln := list_len hx
  have hsm : ∀ W tA c', Below w.heap.size w W → Rd W 1 tA X.text.length (w32s X.text) → Calls Tryz.prog 11 #[xeV tA c' X, xeV A c X] W (RetB (fun v _ => v = .bool true) W) := fun W tA c' hb h => by
    have h2 := same11_any X X tA A c' c W h (hr.below hb) (by have := hx.t; omega) (by have := hx.t; omega)
    rw [show sameE X X = true from decide_eq_true ⟨rfl, rfl, rfl, rfl⟩] at h2
    exact h2
  obtain ⟨S, hS⟩ : ∃ S, Pl.listT X = S := ⟨_, rfl⟩
  rw [hS] at hli hbk hln
  have hnx := hx.t
  clear e1 hg hS
  have HW := Lib.hid (And.intro hv (And.intro hr hx))
  clear hv hr hx
  obtain ⟨tx, dx, rx, ex⟩ := X
  have eX : ∀ tA c', xeV tA c' ⟨tx, dx, rx, ex⟩ = .agg #[.slice tA tx.length c', .string ⟨dx.toArray⟩, .int .i64 rx, .int .u32 (ex : Int)] := fun _ _ => rfl
  simp only [eX] at hgr hli hsm ⊢
  dsimp only at hnx hsm
  obtain ⟨nx, hnx2⟩ : ∃ z, tx.length = z := ⟨_, rfl⟩
  rw [hnx2] at hgr hli hsm hnx ⊢
  have HG := Lib.hid hgr
  have HL := Lib.hid (And.intro hli (And.intro hbk hsm))
  have HN := Lib.hid hnx2
  clear eX hgr hli hbk hsm hnx2
  go_enter Tryz.func6, Tryz.ntmps6
  go_upto_region 1 with (fail)
  obtain ⟨B0, hB0⟩ : ∃ B, w.heap.size = B := ⟨_, rfl⟩
  obtain ⟨w1, hw1⟩ : ∃ V, w.alloc (.cells #[.slice A nx c, .string ⟨dx.toArray⟩, .int .i64 rx, .int .u32 (ex : Int)] 26) = V := ⟨_, rfl⟩
  have hz1 : w1.heap[B0]? = some (.cells #[.slice A nx c, .string ⟨dx.toArray⟩, .int .i64 rx, .int .u32 (ex : Int)] 26 (0, 0)) := by rw [← hw1, ← hB0]; exact heap_alloc_new _ _
  have hb1 : Below w.heap.size w w1 := by rw [← hw1]; exact (Below.refl _ _).alloc (Nat.le_refl _) _
  rw [hw1, hB0]
  obtain ⟨x0, x1, x2, x3⟩ := xeA_cells hz1
  have H1 := Lib.hid (And.intro hz1 hb1)
  clear hw1 hz1 hb1
  go_wp2_with fail
  refine (HG.out _).mono ?_
  rintro y w2 ⟨v, rfl, rfl, hb2⟩
  have hw2 := H1.out.2.trans (hb2.mono H1.out.2.size)
  have hv2 := HW.out.1.below hw2
  have H2 := Lib.hid (And.intro hb2 (And.intro hw2 hv2))
  clear hb2 hw2 hv2 x0 x1 x2 x3
  cases g with
  | true =>
    simp only [if_true]
    go_wp2_with fail
    refine (fixed_any _ H2.out.2.2.asm).mono ?_
    rintro y w3 ⟨v, rfl, rfl, hb3⟩
    go_wp2_with fail
    go_ret
    exact ⟨_, rfl, rfl, H2.out.2.1.trans (hb3.mono H2.out.2.1.size)⟩
  | false =>
    simp only [Bool.false_eq_true, if_false]
    by_cases h3 : 3000 < t.length
    · go_wp2_with fail
      refine (fixed_any _ H2.out.2.2.asm).mono ?_
      rintro y w3 ⟨v, rfl, rfl, hb3⟩
      go_wp2_with fail
      go_ret
      exact ⟨_, rfl, rfl, H2.out.2.1.trans (hb3.mono H2.out.2.1.size)⟩
    go_wp2_with fail
    refine (make_any t _ ht H2.out.2.2.asm).mono ?_
    rintro y w3 hq
    obtain ⟨tA, c3, rfl, hr3, hl3, hb3⟩ := hq.val
    have hy := xeOk_res t
    have hey : (Pl.resE (Pl.mkP t)).2.1 = 0 ∨ (Pl.resE (Pl.mkP t)).1.text.length = 0 := by
      cases Pl.mkP t with
      | error e => exact .inr rfl
      | ok Y => exact .inl rfl
    obtain ⟨⟨Y, e, ln⟩, hRE⟩ : ∃ q, Pl.resE (Pl.mkP t) = q := ⟨_, rfl⟩
    rw [hRE] at hr3 hl3 hy hey ⊢
    dsimp only at hr3 hl3 hy hey ⊢
    have hw3 := H2.out.2.1.trans (hb3.mono H2.out.2.1.size)
    have hv3 := HW.out.1.below hw3
    have hliY := fun W (hb : Below w3.heap.size w3 W) => list_any tA c3 Y W hy (hr3.below hb) (hv3.below hb)
    have hbkY := fun hl => back_of hy hl
    have hlnY := list_len hy
    have hsmY : ∀ W tB c', Below w3.heap.size w3 W → Rd W 1 tB Y.text.length (w32s Y.text) → Calls Tryz.prog 11 #[xeV tB c' Y, xeV tA c3 Y] W (RetB (fun v _ => v = .bool true) W) := fun W tB c' hb h => by
      have h2 := same11_any Y Y tB tA c' c3 W h (hr3.below hb) (by have := hy.t; omega) (by have := hy.t; omega)
      rw [show sameE Y Y = true from decide_eq_true ⟨rfl, rfl, rfl, rfl⟩] at h2
      exact h2
    obtain ⟨SY, hSY⟩ : ∃ S, Pl.listT Y = S := ⟨_, rfl⟩
    rw [hSY] at hliY hbkY hlnY
    have hny := hy.t
    clear hSY hq hRE hr3 hl3 hy
    obtain ⟨ty, dy, ry, ey⟩ := Y
    have eY : ∀ tB c', xeV tB c' ⟨ty, dy, ry, ey⟩ = .agg #[.slice tB ty.length c', .string ⟨dy.toArray⟩, .int .i64 ry, .int .u32 (ey : Int)] := fun _ _ => rfl
    simp only [eY] at hliY hsmY ⊢
    dsimp only at hny hsmY hey
    obtain ⟨ny, hny2⟩ : ∃ z, ty.length = z := ⟨_, rfl⟩
    rw [hny2] at hliY hsmY hny hey ⊢
    have HLY := Lib.hid (And.intro hliY (And.intro hbkY hsmY))
    have HNY := Lib.hid hny2
    have HE := Lib.hid hey
    have H3 := Lib.hid (And.intro hb3 (And.intro hw3 hv3))
    clear eY hliY hbkY hsmY hny2 hey hb3 hw3 hv3
    go_upto_region 4 with (fail)
    obtain ⟨B1, hB1⟩ : ∃ B, w3.heap.size = B := ⟨_, rfl⟩
    obtain ⟨w4, hw4⟩ : ∃ V, w3.alloc (.cells #[.slice tA ny c3, .string ⟨dy.toArray⟩, .int .i64 ry, .int .u32 (ey : Int)] 26) = V := ⟨_, rfl⟩
    have hz4 : w4.heap[B1]? = some (.cells #[.slice tA ny c3, .string ⟨dy.toArray⟩, .int .i64 ry, .int .u32 (ey : Int)] 26 (0, 0)) := by rw [← hw4, ← hB1]; exact heap_alloc_new _ _
    have hb4 : Below w3.heap.size w3 w4 := by rw [← hw4]; exact (Below.refl _ _).alloc (Nat.le_refl _) _
    rw [hw4, hB1]
    have hb14 : Below w1.heap.size w1 w4 := H2.out.1.trans ((H3.out.1.trans (hb4.mono H3.out.1.size)).mono H2.out.1.size)
    have hz14 := (hb14.block B0 (blk_lt H1.out.1)).trans H1.out.1
    obtain ⟨x0, x1, x2, x3⟩ := xeA_cells hz14
    obtain ⟨y0, y1, y2, y3⟩ := xeA_cells hz4
    have H4 := Lib.hid (And.intro hz4 (And.intro hb4 hb14))
    clear hw4 hz4 hb4 hb14 hz14
    go_wp2_with fail
    obtain ⟨D, hD⟩ : ∃ D, w4.heap.size = D := ⟨_, rfl⟩
    obtain ⟨w5, hw5⟩ : ∃ V, w4.alloc (.cells #[.slice A nx c, .string ⟨dx.toArray⟩, .int .i64 rx, .int .u32 (ex : Int), .slice tA ny c3, .string ⟨dy.toArray⟩, .int .i64 ry, .int .u32 (ey : Int)] 26) = V := ⟨_, rfl⟩
    have hz5 : w5.heap[D]? = some (.cells #[.slice A nx c, .string ⟨dx.toArray⟩, .int .i64 rx, .int .u32 (ex : Int), .slice tA ny c3, .string ⟨dy.toArray⟩, .int .i64 ry, .int .u32 (ey : Int)] 26 (0, 0)) := by rw [← hw5, ← hD]; exact heap_alloc_new _ _
    have hb5 : Below w4.heap.size w4 w5 := by rw [← hw5]; exact (Below.refl _ _).alloc (Nat.le_refl _) _
    rw [hw5, hD]
    have hb35 : Below w3.heap.size w3 w5 := H4.out.2.1.trans (hb5.mono H4.out.2.1.size)
    have hbw5 : Below w.heap.size w w5 := H3.out.2.1.trans (hb35.mono H3.out.2.1.size)
    have hz45 := (hb5.block B1 (blk_lt H4.out.1)).trans H4.out.1
    have H5 := Lib.hid (And.intro hz5 (And.intro (And.intro hb35 hz45) hbw5))
    clear hw5 hz5 hb5 hb35 hbw5 hz45 x0 x1 x2 x3 y0 y1 y2 y3
    go_loopw [33] (fun i wr => ∃ (k : Nat), k ≤ 2 ∧ i = .int .i64 (k : Int) ∧ Hid (Below w5.heap.size w5 wr)) (fun i _ => 2 - (intOf i).toNat)
    case atStart => exact ⟨0, by omega, rfl, Lib.hid (Below.refl _ _)⟩
    case round =>
      obtain ⟨k, hk, rfl, HB⟩ := hrel
      have hzr := (HB.out.block D (blk_lt H5.out.1)).trans H5.out.1
      have HR := Lib.hid (And.intro hzr (And.intro HB.out (H5.out.2.2.trans (HB.out.mono H5.out.2.2.size))))
      clear hzr
      have hk3 : k = 0 ∨ k = 1 ∨ k = 2 := by omega
      rcases hk3 with rfl | rfl | rfl
      · clear hk
        obtain ⟨z0, z1, z2, z3⟩ : wr.cell? ⟨D, 0, none⟩ = some (.slice A nx c) ∧ wr.cell? ⟨D, 1, none⟩ = some (.string ⟨dx.toArray⟩) ∧ wr.cell? ⟨D, 2, none⟩ = some (.int .i64 rx) ∧ wr.cell? ⟨D, 3, none⟩ = some (.int .u32 (ex : Int)) :=
          ⟨by rw [cell_row wr D 0 _ _ HR.out.1]; rfl, by rw [cell_row wr D 1 _ _ HR.out.1]; rfl, by rw [cell_row wr D 2 _ _ HR.out.1]; rfl, by rw [cell_row wr D 3 _ _ HR.out.1]; rfl⟩
        go_upto_region 7 with (fail)
        obtain ⟨B6, hB6⟩ : ∃ B, wr.heap.size = B := ⟨_, rfl⟩
        obtain ⟨w6, hw6⟩ : ∃ V, wr.alloc (.cells #[.slice A nx c, .string ⟨dx.toArray⟩, .int .i64 rx, .int .u32 (ex : Int)] 26) = V := ⟨_, rfl⟩
        have hz6 : w6.heap[B6]? = some (.cells #[.slice A nx c, .string ⟨dx.toArray⟩, .int .i64 rx, .int .u32 (ex : Int)] 26 (0, 0)) := by rw [← hw6, ← hB6]; exact heap_alloc_new _ _
        have hb6 : Below wr.heap.size wr w6 := by rw [← hw6]; exact (Below.refl _ _).alloc (Nat.le_refl _) _
        rw [hw6, hB6]
        obtain ⟨q0, q1, q2, q3⟩ := xeA_cells hz6
        have H6 := Lib.hid (And.intro hz6 (And.intro hb6 (HR.out.2.1.trans (hb6.mono HR.out.2.1.size))))
        clear hw6 hz6 hb6 z0 z1 z2 z3
        go_wp2_with fail
        have hbw6 := H5.out.2.2.trans (H6.out.2.2.mono H5.out.2.2.size)
        refine (HL.out.1 w6 hbw6).mono ?_
        rintro y w7 ⟨v, rfl, rfl, hb7⟩
        have hb67 := H6.out.2.2.trans (hb7.mono H6.out.2.2.size)
        have H7 := Lib.hid (And.intro hb7 hb67)
        clear hb7 hb67 hbw6 q0 q1 q2 q3
        by_cases hS0 : S = []
        · have hSi : S.isEmpty = true := by rw [hS0]; rfl
          clear hS0
          go_wp2_with fail
          exact ⟨⟨1, by omega, rfl, Lib.hid H7.out.2⟩, by simp [intOf]⟩
        · have hSi : S.isEmpty = false := by
            cases hq : S with
            | nil => exact absurd hq hS0
            | cons a r => rfl
          have HM := Lib.hid (HL.out.2.1 hS0)
          clear hS0
          go_wp2_with fail
          have hv7 : VLaw w7 := HW.out.1.below (H5.out.2.2.trans (H7.out.2.mono H5.out.2.2.size))
          refine (make_any S w7 (by omega) hv7.asm).mono ?_
          rintro y w8 hq
          obtain ⟨tB, c5, rfl, hr8, hl8, hb8⟩ := hq.val
          rw [HM.out.1] at hr8 hl8 ⊢
          dsimp only [Pl.resE] at hr8 hl8 ⊢
          have e9 : xeV tB c5 ⟨tx, dx, rx, ex⟩ = .agg #[.slice tB tx.length c5, .string ⟨dx.toArray⟩, .int .i64 rx, .int .u32 (ex : Int)] := rfl
          rw [e9]
          rw [HN.out] at hr8 hl8 ⊢
          have H8 := Lib.hid (And.intro hr8 (And.intro hb8 (H7.out.2.trans (hb8.mono H7.out.2.size))))
          clear e9 hq hr8 hl8 hb8 hv7
          go_upto_region 10 with (fail)
          obtain ⟨B9, hB9⟩ : ∃ B, w8.heap.size = B := ⟨_, rfl⟩
          obtain ⟨w9, hw9⟩ : ∃ V, w8.alloc (.cells #[.slice tB nx c5, .string ⟨dx.toArray⟩, .int .i64 rx, .int .u32 (ex : Int)] 26) = V := ⟨_, rfl⟩
          have hz9 : w9.heap[B9]? = some (.cells #[.slice tB nx c5, .string ⟨dx.toArray⟩, .int .i64 rx, .int .u32 (ex : Int)] 26 (0, 0)) := by rw [← hw9, ← hB9]; exact heap_alloc_new _ _
          have hb9 : Below w8.heap.size w8 w9 := by rw [← hw9]; exact (Below.refl _ _).alloc (Nat.le_refl _) _
          rw [hw9, hB9]
          have hb69 : Below w6.heap.size w6 w9 := H7.out.1.trans ((H8.out.2.1.trans (hb9.mono H8.out.2.1.size)).mono H7.out.1.size)
          have hz69 := (hb69.block B6 (blk_lt H6.out.1)).trans H6.out.1
          obtain ⟨q0, q1, q2, q3⟩ := xeA_cells hz69
          obtain ⟨r0, r1, r2, r3⟩ := xeA_cells hz9
          have H9 := Lib.hid (And.intro (H8.out.1.below hb9) (H8.out.2.2.trans (hb9.mono H8.out.2.2.size)))
          clear hw9 hz9 hb9 hb69 hz69
          go_wp2_with fail
          refine (HL.out.2.2 w9 tB c5 (H5.out.2.2.trans (H9.out.2.mono H5.out.2.2.size)) H9.out.1).mono ?_
          rintro y w10 ⟨v, rfl, rfl, hb10⟩
          have H10 := Lib.hid (H9.out.2.trans (hb10.mono H9.out.2.size))
          clear hb10 q0 q1 q2 q3 r0 r1 r2 r3
          go_wp2_with fail
          exact ⟨⟨1, by omega, rfl, Lib.hid H10.out⟩, by simp [intOf]⟩
      · clear hk
        obtain ⟨z0, z1, z2, z3⟩ : wr.cell? ⟨D, 4, none⟩ = some (.slice tA ny c3) ∧ wr.cell? ⟨D, 5, none⟩ = some (.string ⟨dy.toArray⟩) ∧ wr.cell? ⟨D, 6, none⟩ = some (.int .i64 ry) ∧ wr.cell? ⟨D, 7, none⟩ = some (.int .u32 (ey : Int)) :=
          ⟨by rw [cell_row wr D 4 _ _ HR.out.1]; rfl, by rw [cell_row wr D 5 _ _ HR.out.1]; rfl, by rw [cell_row wr D 6 _ _ HR.out.1]; rfl, by rw [cell_row wr D 7 _ _ HR.out.1]; rfl⟩
        go_upto_region 7 with (fail)
        obtain ⟨B6, hB6⟩ : ∃ B, wr.heap.size = B := ⟨_, rfl⟩
        obtain ⟨w6, hw6⟩ : ∃ V, wr.alloc (.cells #[.slice tA ny c3, .string ⟨dy.toArray⟩, .int .i64 ry, .int .u32 (ey : Int)] 26) = V := ⟨_, rfl⟩
        have hz6 : w6.heap[B6]? = some (.cells #[.slice tA ny c3, .string ⟨dy.toArray⟩, .int .i64 ry, .int .u32 (ey : Int)] 26 (0, 0)) := by rw [← hw6, ← hB6]; exact heap_alloc_new _ _
        have hb6 : Below wr.heap.size wr w6 := by rw [← hw6]; exact (Below.refl _ _).alloc (Nat.le_refl _) _
        rw [hw6, hB6]
        obtain ⟨q0, q1, q2, q3⟩ := xeA_cells hz6
        have H6 := Lib.hid (And.intro hz6 (And.intro hb6 (HR.out.2.1.trans (hb6.mono HR.out.2.1.size))))
        clear hw6 hz6 hb6 z0 z1 z2 z3
        go_wp2_with fail
        have hbw6 := H5.out.2.1.1.trans (H6.out.2.2.mono H5.out.2.1.1.size)
        refine (HLY.out.1 w6 hbw6).mono ?_
        rintro y w7 ⟨v, rfl, rfl, hb7⟩
        have hb67 := H6.out.2.2.trans (hb7.mono H6.out.2.2.size)
        have H7 := Lib.hid (And.intro hb7 hb67)
        clear hb7 hb67 hbw6 q0 q1 q2 q3
        by_cases hS0 : SY = []
        · have hSi : SY.isEmpty = true := by rw [hS0]; rfl
          clear hS0
          go_wp2_with fail
          exact ⟨⟨2, by omega, rfl, Lib.hid H7.out.2⟩, by simp [intOf]⟩
        · have hSi : SY.isEmpty = false := by
            cases hq : SY with
            | nil => exact absurd hq hS0
            | cons a r => rfl
          have HM := Lib.hid (HLY.out.2.1 hS0)
          clear hS0
          go_wp2_with fail
          have hv7 : VLaw w7 := HW.out.1.below (H5.out.2.2.trans (H7.out.2.mono H5.out.2.2.size))
          refine (make_any SY w7 (by omega) hv7.asm).mono ?_
          rintro y w8 hq
          obtain ⟨tB, c5, rfl, hr8, hl8, hb8⟩ := hq.val
          rw [HM.out.1] at hr8 hl8 ⊢
          dsimp only [Pl.resE] at hr8 hl8 ⊢
          have e9 : xeV tB c5 ⟨ty, dy, ry, ey⟩ = .agg #[.slice tB ty.length c5, .string ⟨dy.toArray⟩, .int .i64 ry, .int .u32 (ey : Int)] := rfl
          rw [e9]
          rw [HNY.out] at hr8 hl8 ⊢
          have H8 := Lib.hid (And.intro hr8 (And.intro hb8 (H7.out.2.trans (hb8.mono H7.out.2.size))))
          clear e9 hq hr8 hl8 hb8 hv7
          go_upto_region 10 with (fail)
          obtain ⟨B9, hB9⟩ : ∃ B, w8.heap.size = B := ⟨_, rfl⟩
          obtain ⟨w9, hw9⟩ : ∃ V, w8.alloc (.cells #[.slice tB ny c5, .string ⟨dy.toArray⟩, .int .i64 ry, .int .u32 (ey : Int)] 26) = V := ⟨_, rfl⟩
          have hz9 : w9.heap[B9]? = some (.cells #[.slice tB ny c5, .string ⟨dy.toArray⟩, .int .i64 ry, .int .u32 (ey : Int)] 26 (0, 0)) := by rw [← hw9, ← hB9]; exact heap_alloc_new _ _
          have hb9 : Below w8.heap.size w8 w9 := by rw [← hw9]; exact (Below.refl _ _).alloc (Nat.le_refl _) _
          rw [hw9, hB9]
          have hb69 : Below w6.heap.size w6 w9 := H7.out.1.trans ((H8.out.2.1.trans (hb9.mono H8.out.2.1.size)).mono H7.out.1.size)
          have hz69 := (hb69.block B6 (blk_lt H6.out.1)).trans H6.out.1
          obtain ⟨q0, q1, q2, q3⟩ := xeA_cells hz69
          obtain ⟨r0, r1, r2, r3⟩ := xeA_cells hz9
          have H9 := Lib.hid (And.intro (H8.out.1.below hb9) (H8.out.2.2.trans (hb9.mono H8.out.2.2.size)))
          clear hw9 hz9 hb9 hb69 hz69
          go_wp2_with fail
          refine (HLY.out.2.2 w9 tB c5 (H5.out.2.1.1.trans (H9.out.2.mono H5.out.2.1.1.size)) H9.out.1).mono ?_
          rintro y w10 ⟨v, rfl, rfl, hb10⟩
          have H10 := Lib.hid (H9.out.2.trans (hb10.mono H9.out.2.size))
          clear hb10 q0 q1 q2 q3 r0 r1 r2 r3
          go_wp2_with fail
          exact ⟨⟨2, by omega, rfl, Lib.hid H10.out⟩, by simp [intOf]⟩
      · clear hk
        have hvr := HW.out.1.below HR.out.2.2
        have hzy := (HB.out.block B1 (blk_lt H5.out.2.1.2)).trans H5.out.2.1.2
        have H11 := Lib.hid (And.intro hvr hzy)
        clear hvr hzy
        go_wp2_with fail
        refine (fixed_any wr H11.out.1.asm).mono ?_
        rintro y w11 ⟨v, rfl, rfl, hb11⟩
        obtain ⟨y0, y1, y2, y3⟩ := xeA_cells ((hb11.block B1 (blk_lt H11.out.2)).trans H11.out.2)
        have H12 := Lib.hid (HR.out.2.2.trans (hb11.mono HR.out.2.2.size))
        clear hb11
        by_cases he : e = 0
        · have he1 : ((e : Int) == 0) = true := by rw [beq_iff_eq]; omega
          clear he
          go_wp2_with fail
          go_ret
          exact ⟨_, rfl, rfl, H12.out⟩
        · have he1 : ((e : Int) == 0) = false := by rw [beq_eq_false_iff_ne]; omega
          have hny0 : ny = 0 := by rcases HE.out with h | h; exact absurd h he; exact h
          have he2 : ((ny : Int) == 0) = true := by rw [beq_iff_eq]; omega
          clear he hny0
          go_wp2_with fail
          go_ret
          exact ⟨_, rfl, rfl, H12.out⟩
-- FRAME
set_option maxRecDepth 100000 in
theorem asmBack_lifted (os : Os) (started : os.Started) (H : Type) (enc : TypeId × Value → H) :
    ReturnsInHanded {} Tryz.checked os 6 .any (fun w args => (Rows.asmBackSpec.pre enc Tryz.prog Tryz.f6 [] false w args ∧ laidMetH Tryz.prog tabs8 w) ∧ sizedMet enc Tryz.prog Tryz.f6 (OpenSpec.ofChange Rows.asmBackSpec) false w args) (Rows.asmBackSpec.post enc Tryz.prog Tryz.f6 false true false false) := by
  refine handed_and_shaped (C := Tryz.checked) (X := fun w _ => laidMetH Tryz.prog tabs8 w) (fun _ _ _ hh h => h.of_heap hh) own started (by kernel_rfl) Tryz.func6
    (ChangeSpec.witness_shaped (enc := enc) (C := Tryz.checked) (os := os) (X := fun w _ => laidMetH Tryz.prog tabs8 w) false (World.laidAll Tryz.prog os tabs8) #[.agg #[.slice none 0 0, .string ⟨#[]⟩, .int .i64 0, .int .u32 0], .string ⟨#[]⟩] 8 (World.laidAll_os _ _ _) (door_shaped8 os) (by kernel_rfl) (by kernel_rfl) (by kernel_rfl) (door_met8 os _)) ?_
  intro W base args ds gs before hval0 hW hcnd hsz0 hL hsh _
  have hvars := vlaw_of8 hL hsh
  have hval : ∀ (j : Nat) t v, Tryz.f6.params[j]? = some t → args[j]? = some v → Value.okWide Tryz.prog W .any base t v := hval0
  have hW' := hW
  obtain ⟨p, q, hA0, hV, rfl, hfz, hnd⟩ := hW
  have hA : DataW.TrodAll enc Tryz.prog W 0 (fun _ => true) true Tryz.f6.params.toList args.toList ds p := hA0
  have hsz : (DataW.weightsEach Tryz.prog (Tryz.f6.params.toList ++ Rows.asmBackSpec.plain.varTypes Tryz.prog) (ds ++ gs)).all (· ≤ reachBytes) = true := hsz0
  rw [Tryz.params6] at hA hval hsz
  obtain ⟨v0, vs0, d0, ds0, p0, q0, hargs, rfl, rfl, h0, r0⟩ := trodAll_cons hA
  obtain ⟨v1, vs1, d1, ds1, p1, q1, rfl, rfl, rfl, h1, r1⟩ := trodAll_cons r0
  obtain ⟨rfl, rfl, rfl⟩ := trodAll_nil r1
  obtain rfl : args = #[v0, v1] := by cases args; simp_all
  obtain ⟨rfl, rfl⟩ := trodVars_none hV
  have k0 := h0
  have lt0 : ∀ x ∈ p0, x.block < W.heap.size := by obtain ⟨m, hm⟩ := k0; exact DataW.trod_lt m _ _ _ hm
  have hz0 : ∀ m ∈ d0.weights Tryz.prog 26, m ≤ reachBytes := fun m hm => by
    have h1 := List.all_eq_true.1 hsz m (DataW.weights_mem_each (j := 0) rfl rfl m hm)
    simpa using h1
  obtain ⟨A0, c0, x0, rfl, eA0, eB0⟩ := open_xe (hval 0 26 v0 rfl rfl) h0 hz0
  have k1 := h1
  have lt1 : ∀ x ∈ p1, x.block < W.heap.size := by obtain ⟨m, hm⟩ := k1; exact DataW.trod_lt m _ _ _ hm
  have hz1 : ∀ m ∈ d1.weights Tryz.prog 9, m ≤ reachBytes := fun m hm => by
    have h1 := List.all_eq_true.1 hsz m (DataW.weights_mem_each (j := 1) rfl rfl m hm)
    simpa using h1
  obtain ⟨l1, rfl, eA1⟩ := open_str (hval 1 9 v1 rfl rfl) h1 hz1
  clear hA0 hval0 hsz0
  refine (asmBack_walk A0 c0 x0 l1 W eA0 eB0 (Nat.le_trans eA1 reach_le) hvars).mono fun e W' ⟨v, he, hv, bel⟩ => ?_
  subst he hv
  exact ⟨_, rfl, _, _, _, [], _, [], hW', trodAll_mk1 (shut_bool Tryz.underlying4 _), (trodAll_cons_mk (Below.trod laidOut (by kernel_rfl) (of_decide_eq_true (by kernel_rfl)) k0 bel lt0) (trodAll_cons_mk (Below.trod laidOut (by kernel_rfl) (of_decide_eq_true (by kernel_rfl)) k1 bel lt1) trodAll_mk0)), rfl, bel.frame _, fun h => by cases h⟩

theorem asmBack_row : Rows.AsmBackSaid :=
  OpenClaim.holds_of_wide 6 Tryz.f6 rfl rfl rfl rfl rfl rfl rfl ⟨rfl, rfl, rfl, rfl, rfl⟩ rfl rfl rfl rfl rfl (by kernel_rfl) Tryz.func6 (by kernel_rfl)
    (of_decide_eq_true (by kernel_rfl)) (by unfold Func.isWrapper; first | (rw [if_pos (by decide +kernel)]; kernel_rfl) | (rw [if_neg (by decide +kernel)]; exact ⟨rfl, rfl⟩))
    (fun os started H enc _ => asmBack_lifted os started H enc)

theorem asmBack_holds : Rows.AsmBackCardSaid :=
  Claim7.holds_tied_plain_at .later [] [.data, .data, .data, .data, .sentinel, .sentinel, .data, .pinned] true (true, "818a6ed589f336af0c0d102f47932e8562c39db2379b8541c17b0339f756e312") true
    asmBack_row (fun _ h => by cases h) (by kernel_rfl) (fun _ h => by cases h) asmBack_row_tie rfl ⟨rfl, rfl⟩ (by kernel_rfl) rfl
    (fun f fn hf hfn => by
      obtain rfl : f = 6 := Option.some.inj ((show Tryz.prog.funcNamed "hibernacle/hibernaclelaw11.AsmBack" = some 6 by kernel_rfl).symm.trans hf) |>.symm
      obtain rfl : fn = Tryz.f6 := (Option.some.inj (Tryz.func6.symm.trans hfn)).symm
      exact ⟨by kernel_rfl, fun j t ht => by
        rw [Tryz.params6] at ht
        rcases j with _ | _ | _ | _ | j
        all_goals first
          | (simp at ht; done)
          | (have h3 := Option.some.inj ht; subst h3; exact (show Tryz.prog.wantsStandIn _ = false by kernel_rfl))⟩)
    (by kernel_rfl)
#print axioms asmBack_holds
end Go.Proofs.YtmmnkoeajdeldaaGreatDoor
