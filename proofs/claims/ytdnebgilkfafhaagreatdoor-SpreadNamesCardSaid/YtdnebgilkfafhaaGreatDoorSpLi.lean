/- The walks of layer 37's statements' own helpers: Great, light, Bend. -/
import Derived.Test.YtdnebgilkfafhaaGreatDoorOpenLi
namespace Go.Proofs.YtdnebgilkfafhaaGreatDoor
open Go.RowKit
set_option linter.unusedVariables false
set_option linter.unusedSimpArgs false
attribute [local go_sem] ba_get ba_cut ba_add
set_option maxRecDepth 100000 in
set_option maxHeartbeats 4000000 in
theorem great37_any (S : Nat → Pl.Shelf) (X : Nat → ShX) (n : Int) (w : World) (hok : StOk w S X) (hfit : FitS S) :
    Calls Tryz.prog 22 #[.agg (stoL S X n).toArray] w (RetB (fun v _ => ∃ g : Int, v = .int .i64 g) w) := by
  obtain ⟨N, hN⟩ : ∃ N, w.heap.size = N := ⟨_, rfl⟩
  go_enter Tryz.func22, Tryz.ntmps22
  go_upto_region 1 with (fail)
  generalize hW : World.alloc w _ = W
  have hbx : StBx N S X n W := by rw [← hW, ← hN]; exact StBx.new w S X n
  have hbW : Below N w W := by rw [← hW]; exact (Below.refl _ _).alloc (by omega) _
  have hok2 : StOk W S X := hok.below (by rw [hN]; exact hbW)
  have hr5 := hbx.range5
  have hi5 : (Tryz.prog.info? 31).map (·.size) = some (stoC S X).length := info_sh5
  try simp only [hN]
  have HB := Lib.hid (And.intro hbW hok2)
  clear hW hbx hbW hok2 hok
  go_upto_region 3 with (with_reducible refine wpList_load_mid rfl 31 _ rfl N 0 rfl (stoC S X) _ hr5 Tryz.underlying31 rfl hi5 ?_)
  clear hr5
  obtain ⟨Q, hQ⟩ : ∃ Q, W.heap.size = Q := ⟨_, rfl⟩
  go_loopw [3, 10] (fun nv iv wr => ∃ (z : Int) (k : Nat), k ≤ 5 ∧ nv = .int .i64 z ∧ iv = .int .i64 (k : Int) ∧ Hid (Below Q W wr)) (fun _ iv _ => 5 - (intOf iv).toNat)
  case atStart => exact ⟨0, 0, by omega, rfl, rfl, Lib.hid (Below.refl _ _)⟩
  case round =>
    obtain ⟨z, k, hk, rfl, rfl, HW⟩ := hrel
    by_cases hk5 : k < 5
    · have hidx := fun W => index_sh S X hk5 W
      have hsh := (HB.out.2.below (by rw [hQ]; exact HW.out)) k hk5
      obtain ⟨⟨l, F⟩, hs⟩ : ∃ s, S k = s := ⟨_, rfl⟩
      obtain ⟨⟨A, c, A', c'⟩, hx⟩ : ∃ x, X k = x := ⟨_, rfl⟩
      have hlen := (hfit k hk5).1
      rw [hs] at hlen
      simp only at hlen
      rw [hs, hx] at hidx hsh
      simp only at hidx
      obtain ⟨T, hT⟩ : ∃ T, wr.heap.size = T := ⟨_, rfl⟩
      go_upto_region 5 with (fail)
      generalize hW1 : World.alloc wr _ = W1
      have hz1 : W1.heap[T]? = some (.cells #[.slice A l.length c, .slice A' F.length c'] 26 (0, 0)) := by rw [← hW1, ← hT]; exact heap_alloc_new _ _
      have hb1 : Below wr.heap.size wr W1 := by rw [← hW1]; exact (Below.refl _ _).alloc (Nat.le_refl _) _
      have hsr : Q ≤ wr.heap.size := by rw [← hQ]; exact HW.out.size
      have hbq : Below Q W W1 := HW.out.trans (hb1.mono hsr)
      have t0 : W1.cell? ⟨T, 0, none⟩ = some (.slice A l.length c) := by rw [cell_row W1 T 0 _ _ hz1]; rfl
      have t1 : W1.cell? ⟨T, 1, none⟩ = some (.slice A' F.length c') := by rw [cell_row W1 T 1 _ _ hz1]; rfl
      have hA := hsh.1.below hb1
      have H1 := Lib.hid (And.intro hbq hA)
      have hQ1 : Q ≤ W1.heap.size := hbq.size |> (fun h => by omega)
      simp only at hA
      clear hW1 hz1 hb1 hbq hsh hs hx hT HW hsr hA hidx
      obtain ⟨Q1, hq1⟩ : ∃ Q1, W1.heap.size = Q1 := ⟨_, rfl⟩
      rw [hq1] at hQ1
      go_upto_region 7 with (fail)
      go_loopw [3, 21] (fun nv iv wr => ∃ (z : Int) (j : Nat), j ≤ l.length ∧ nv = .int .i64 z ∧ iv = .int .i64 (j : Int) ∧ Hid (Below Q1 W1 wr)) (fun _ iv _ => l.length - (intOf iv).toNat)
      case atStart => exact ⟨_, 0, by omega, rfl, rfl, Lib.hid (Below.refl _ _)⟩
      case round =>
        obtain ⟨z1, j, hj, rfl, rfl, HW⟩ := hrel
        by_cases hjl : j < l.length
        · obtain ⟨b, off, rfl, hlt, p0, p1, p2, p3⟩ := (H1.out.2.below (by rw [hq1]; exact HW.out)).1.obj rfl hjl
          obtain ⟨⟨y0, y1, y2, y3⟩, hy⟩ : ∃ y, l[j] = y := ⟨_, rfl⟩
          rw [hy] at p0 p1 p2 p3
          simp only at p0 p1 p2 p3
          clear hy
          have hs1 := HW.out.size
          go_wp2_with fail
          exact ⟨⟨_, j + 1, by omega, rfl, ret_i (by omega), Lib.hid (HW.out.trans ((Below.refl _ _).alloc (by omega) _))⟩, by simp only [intOf]; omega⟩
        · obtain rfl : j = l.length := by omega
          clear hj hjl
          have HQ := Lib.hid (H1.out.1.trans (HW.out.mono hQ1))
          go_wp2_with fail
          exact ⟨⟨_, k + 1, by omega, rfl, ret_i (by omega), HQ⟩, by simp only [intOf]; omega⟩
    · obtain rfl : k = 5 := by omega
      clear hk hk5
      have HQ := Lib.hid (HB.out.1.trans (HW.out.mono (by have := HB.out.1.size; omega)))
      go_wp2_with fail
      all_goals
        go_ret
        exact ⟨_, rfl, ⟨_, rfl⟩, by rw [hN]; exact HQ.out⟩
/-- Two shelves alone. -/
def liS (X Y : Pl.Shelf) : Nat → Pl.Shelf
  | 0 => X
  | 1 => Y
  | _ => Pl.noSh
def liX (x y : ShX) : Nat → ShX
  | 0 => x
  | 1 => y
  | _ => zx
theorem li_ok {w : World} {q : Li} (h : q.Ok w) : StOk w (liS q.X q.Y) (liX q.x q.y) := fun i hi => by
  rcases lt5 hi with rfl | rfl | rfl | rfl | rfl
  · exact h.X
  · exact h.Y
  · exact (ShF.none 0 w).ok
  · exact (ShF.none 0 w).ok
  · exact (ShF.none 0 w).ok
theorem li_fit {w : World} {q : Li} (h : q.Ok w) : FitS (liS q.X q.Y) := fun i hi => by
  rcases lt5 hi with rfl | rfl | rfl | rfl | rfl
  · exact h.fX
  · exact h.fY
  · exact FitS.fresh 0 (by omega)
  · exact FitS.fresh 0 (by omega)
  · exact FitS.fresh 0 (by omega)
theorem Li.Ok.below {w w' : World} {q : Li} (h : q.Ok w) (hb : Below w.heap.size w w') : q.Ok w' := ⟨h.a, h.b, h.X.below hb, h.Y.below hb, h.fX, h.fY⟩
set_option maxRecDepth 100000 in
theorem light_any (q : Li) (w : World) (hq : q.Ok w) : Calls Tryz.prog 11 #[.agg q.L.toArray] w (RetB (fun v _ => ∃ b : Bool, v = .bool b) w) := by
  obtain ⟨N, hN⟩ : ∃ N, w.heap.size = N := ⟨_, rfl⟩
  have hg := fun (W : World) (h : q.Ok W) => great37_any (liS q.X q.Y) (liX q.x q.y) 0 W (li_ok h) (li_fit h)
  obtain ⟨a, b, ⟨xo, xf⟩, ⟨A, c, A', c'⟩, ⟨yo, yf⟩, ⟨B, e, B', e'⟩⟩ := q
  have hL : Li.L ⟨a, b, ⟨xo, xf⟩, ⟨A, c, A', c'⟩, ⟨yo, yf⟩, ⟨B, e, B', e'⟩⟩ = [.int .u8 (a : Int), .int .u8 (b : Int), .slice A xo.length c, .slice A' xf.length c', .slice B yo.length e, .slice B' yf.length e'] := rfl
  rw [hL]
  have hs : (stoL (liS ⟨xo, xf⟩ ⟨yo, yf⟩) (liX ⟨A, c, A', c'⟩ ⟨B, e, B', e'⟩) 0).toArray = #[.slice A xo.length c, .slice A' xf.length c', .slice B yo.length e, .slice B' yf.length e', .slice none 0 0, .slice none 0 0, .slice none 0 0, .slice none 0 0, .slice none 0 0, .slice none 0 0, .int .i64 0] := rfl
  simp only [hs] at hg
  have HG := Lib.hid (And.intro hg hq)
  clear hg hL hs hq
  go_enter Tryz.func11, Tryz.ntmps11
  go_upto_region 1 with (fail)
  generalize hW : World.alloc w _ = W
  have hx : W.heap[N]? = some (.cells #[.int .u8 (a : Int), .int .u8 (b : Int), .slice A xo.length c, .slice A' xf.length c', .slice B yo.length e, .slice B' yf.length e'] 28 (0, 0)) := by rw [← hW, ← hN]; exact heap_alloc_new _ _
  have hbW : Below w.heap.size w W := by rw [← hW]; exact (Below.refl _ _).alloc (Nat.le_refl _) _
  have c2 : W.cell? ⟨N, 2, none⟩ = some (.slice A xo.length c) := by rw [cell_row W N 2 _ _ hx]; rfl
  have c3 : W.cell? ⟨N, 3, none⟩ = some (.slice A' xf.length c') := by rw [cell_row W N 3 _ _ hx]; rfl
  have c4 : W.cell? ⟨N, 4, none⟩ = some (.slice B yo.length e) := by rw [cell_row W N 4 _ _ hx]; rfl
  have c5 : W.cell? ⟨N, 5, none⟩ = some (.slice B' yf.length e') := by rw [cell_row W N 5 _ _ hx]; rfl
  have HB := Lib.hid hbW
  try simp only [hN]
  clear hW hx hbW
  go_wp2_with (with_reducible refine (HG.out.1 W (HG.out.2.below HB.out)).mono ?_)
  rintro _ w2 ⟨v, rfl, ⟨g, rfl⟩, hb2⟩
  have HB2 := Lib.hid (HB.out.trans (hb2.mono HB.out.size))
  clear hb2
  go_wp2_with fail
  go_ret
  exact ⟨_, rfl, ⟨_, rfl⟩, HB2.out⟩
theorem there_at {w : World} {B o n : Nat} {C : Array Value} {t : TypeId} (h : w.heap[B]? = some (.cells C t (0, 0))) (hn : o + n ≤ C.size) : w.there B o n := fun j hj =>
  ⟨by rw [cell_row w B (o + j) C t h, Array.getElem?_eq_getElem (by omega)]; rfl, frozen_of w B _ C t h⟩
def bendS (q : Li) (S : Nat → Pl.Shelf) : Nat → Pl.Shelf := upd (upd S (q.a % 5) q.X) (q.b % 5) q.Y
def bendX (q : Li) (X : Nat → ShX) : Nat → ShX := upd (upd X (q.a % 5) q.x) (q.b % 5) q.y
theorem bend_ok {w : World} {q : Li} (h : q.Ok w) {S : Nat → Pl.Shelf} {X : Nat → ShX} (hok : StOk w S X) : StOk w (bendS q S) (bendX q X) := fun i hi => by
  unfold bendS bendX
  by_cases e : i = q.b % 5
  · subst e; rw [upd_same, upd_same]; exact h.Y
  · rw [upd_other _ _ e, upd_other _ _ e]
    by_cases e' : i = q.a % 5
    · subst e'; rw [upd_same, upd_same]; exact h.X
    · rw [upd_other _ _ e', upd_other _ _ e']; exact hok i hi
theorem bend_fit {w : World} {q : Li} (h : q.Ok w) {S : Nat → Pl.Shelf} (hf : FitS S) : FitS (bendS q S) := fun i hi => by
  unfold bendS
  by_cases e : i = q.b % 5
  · subst e; rw [upd_same]; exact h.fY
  · rw [upd_other _ _ e]
    by_cases e' : i = q.a % 5
    · subst e'; rw [upd_same]; exact h.fX
    · rw [upd_other _ _ e']; exact hf i hi
theorem sets_two (W : World) (B o : Nat) (u v : Value) : W.setCells B o [u, v] = (W.setCell ⟨B, o, none⟩ u).setCell ⟨B, o + 1, none⟩ v := rfl
set_option maxRecDepth 100000 in
set_option maxHeartbeats 8000000 in
theorem bend_any (S : Nat → Pl.Shelf) (X : Nat → ShX) (n : Int) (q : Li) (w : World) (hq : q.Ok w) :
    Calls Tryz.prog 15 #[.agg (stoL S X n).toArray, .agg q.L.toArray] w (RetB (fun v _ => v = .agg (stoL (bendS q S) (bendX q X) n).toArray) w) := by
  obtain ⟨N, hN⟩ : ∃ N, w.heap.size = N := ⟨_, rfl⟩
  have ha := hq.a
  have hb := hq.b
  clear hq
  unfold bendS bendX
  obtain ⟨a, b, SX, ZX, SY, ZY⟩ := q
  simp only at ha hb ⊢
  obtain ⟨i, hi⟩ : ∃ i, a % 5 = i := ⟨_, rfl⟩
  obtain ⟨j, hj⟩ : ∃ j, b % 5 = j := ⟨_, rfl⟩
  rw [hi, hj]
  have hi5 : i < 5 := by omega
  have hj5 : j < 5 := by omega
  have hiI : ((i : Int) < 5) = True := eq_true (by omega)
  have hjI : ((j : Int) < 5) = True := eq_true (by omega)
  have hra : Int.tmod (a : Int) 5 = (i : Int) := by rw [Int.tmod_eq_emod_of_nonneg (by omega)]; omega
  have hrb : Int.tmod (b : Int) 5 = (j : Int) := by rw [Int.tmod_eq_emod_of_nonneg (by omega)]; omega
  have hL : Li.L ⟨a, b, SX, ZX, SY, ZY⟩ = [.int .u8 (a : Int), .int .u8 (b : Int), .slice ZX.A SX.objs.length ZX.c, .slice ZX.A' SX.fates.length ZX.c', .slice ZY.A SY.objs.length ZY.c, .slice ZY.A' SY.fates.length ZY.c'] := rfl
  rw [hL]
  obtain ⟨x0, hx0⟩ : ∃ v, Value.slice ZX.A SX.objs.length ZX.c = v := ⟨_, rfl⟩
  obtain ⟨x1, hx1⟩ : ∃ v, Value.slice ZX.A' SX.fates.length ZX.c' = v := ⟨_, rfl⟩
  obtain ⟨y0, hy0⟩ : ∃ v, Value.slice ZY.A SY.objs.length ZY.c = v := ⟨_, rfl⟩
  obtain ⟨y1, hy1⟩ : ∃ v, Value.slice ZY.A' SY.fates.length ZY.c' = v := ⟨_, rfl⟩
  have ox0 : x0.oneCell' = true := by rw [← hx0]; rfl
  have ox1 : x1.oneCell' = true := by rw [← hx1]; rfl
  have oy0 : y0.oneCell' = true := by rw [← hy0]; rfl
  have oy1 : y1.oneCell' = true := by rw [← hy1]; rfl
  rw [hx0, hx1, hy0, hy1]
  have HX := Lib.hid (And.intro hx0 (And.intro hx1 (And.intro hy0 hy1)))
  clear hL hx0 hx1 hy0 hy1 hi hj
  go_enter Tryz.func15, Tryz.ntmps15
  go_upto_region 1 with (fail)
  rw [zero_sto]
  generalize hV : World.alloc _ (.cells (stoL (fun _ => Pl.noSh) (fun _ => ⟨none, 0, none, 0⟩) 0).toArray 33) = V
  have hVa : allocs w [.cells (stoL S X n).toArray 33, .cells #[.int .u8 (a : Int), .int .u8 (b : Int), x0, x1, y0, y1] 28, .cells (stoL (fun _ => Pl.noSh) (fun _ => ⟨none, 0, none, 0⟩) 0).toArray 33] = V := hV
  have hbV : Below N w V := by rw [← hVa]; exact allocs_below w _ N (by omega)
  have hsV : V.heap.size = N + 3 := by rw [← hVa, allocs_size, hN]; simp only [List.length_cons, List.length_nil]
  have h0 : StBx N S X n V := allocs_at hVa hN 0 rfl
  have h1 : V.heap[N + 1]? = some (.cells #[.int .u8 (a : Int), .int .u8 (b : Int), x0, x1, y0, y1] 28 (0, 0)) := allocs_at hVa hN 1 rfl
  have h2 : StBx (N + 2) (fun _ => Pl.noSh) (fun _ => ⟨none, 0, none, 0⟩) 0 V := allocs_at hVa hN 2 rfl
  have cs : V.cell? ⟨N + 1, 0, none⟩ = some (.int .u8 (a : Int)) ∧ V.cell? ⟨N + 1, 1, none⟩ = some (.int .u8 (b : Int)) ∧ V.cell? ⟨N + 1, 2, none⟩ = some x0 ∧ V.cell? ⟨N + 1, 3, none⟩ = some x1 ∧ V.cell? ⟨N + 1, 4, none⟩ = some y0 ∧ V.cell? ⟨N + 1, 5, none⟩ = some y1 := by
    refine ⟨?_, ?_, ?_, ?_, ?_, ?_⟩ <;> (rw [cell_row V (N + 1) _ _ _ h1]; rfl)
  have HB := Lib.hid (And.intro h0 (And.intro h1 (And.intro h2 hbV)))
  clear hV hVa hbV h0 h1 h2
  try simp only [hN]
  refine wp_region_held_drew (S := (fun w' => w'.cell? ⟨N + 1, 0, none⟩ = some (.int .u8 (a : Int)) ∧ w'.cell? ⟨N + 1, 1, none⟩ = some (.int .u8 (b : Int)) ∧ w'.cell? ⟨N + 1, 2, none⟩ = some x0 ∧ w'.cell? ⟨N + 1, 3, none⟩ = some x1 ∧ w'.cell? ⟨N + 1, 4, none⟩ = some y0 ∧ w'.cell? ⟨N + 1, 5, none⟩ = some y1)) (by kernel_rfl) (by exact cs) (fun hHeld => ?_)
  refine tk 0 (v := ?_) rfl ?_ hHeld ?_
  rotate_left
  · (intro w' hSw; obtain ⟨hS0, hS1, hS2, hS3, hS4, hS5⟩ := hSw; go_simp; try with_reducible rfl)
  simp only [Act.put, lay9]
  refine tk 1 (v := ?_) rfl ?_ hHeld ?_
  rotate_left
  · (intro w' hSw; obtain ⟨hS0, hS1, hS2, hS3, hS4, hS5⟩ := hSw; go_simp; try with_reducible rfl)
  simp only [Act.put, lay9]
  refine tk 2 (v := ?_) rfl ?_ hHeld ?_
  rotate_left
  · (intro w' hSw; obtain ⟨hS0, hS1, hS2, hS3, hS4, hS5⟩ := hSw; go_simp; try with_reducible rfl)
  simp only [Act.put, lay9]
  refine tk 3 (v := ?_) rfl ?_ hHeld ?_
  rotate_left
  · (intro w' hSw; obtain ⟨hS0, hS1, hS2, hS3, hS4, hS5⟩ := hSw; go_simp; try with_reducible rfl)
  simp only [Act.put, lay9]
  refine tk 4 (v := ?_) rfl ?_ hHeld ?_
  rotate_left
  · (intro w' hSw; obtain ⟨hS0, hS1, hS2, hS3, hS4, hS5⟩ := hSw; go_simp; try with_reducible rfl)
  simp only [Act.put, lay9]
  refine tk 5 (v := ?_) rfl ?_ hHeld ?_
  rotate_left
  · (intro w' hSw; obtain ⟨hS0, hS1, hS2, hS3, hS4, hS5⟩ := hSw; go_simp; try with_reducible rfl)
  simp only [Act.put, lay9]
  refine tk 6 (v := ?_) rfl ?_ hHeld ?_
  rotate_left
  · (intro w' hSw; obtain ⟨hS0, hS1, hS2, hS3, hS4, hS5⟩ := hSw; go_simp; try with_reducible rfl)
  simp only [Act.put, lay9]
  refine tk 7 (v := ?_) rfl ?_ hHeld ?_
  rotate_left
  · (intro w' hSw; obtain ⟨hS0, hS1, hS2, hS3, hS4, hS5⟩ := hSw; go_simp; try with_reducible rfl)
  simp only [Act.put, lay9]
  refine tk 8 (v := ?_) rfl ?_ hHeld ?_
  rotate_left
  · (intro w' hSw; obtain ⟨hS0, hS1, hS2, hS3, hS4, hS5⟩ := hSw; go_simp; try with_reducible rfl)
  simp only [Act.put, lay9]
  refine tk 9 (v := ?_) rfl ?_ hHeld ?_
  rotate_left
  · (intro w' hSw; obtain ⟨hS0, hS1, hS2, hS3, hS4, hS5⟩ := hSw; go_simp; try with_reducible rfl)
  simp only [Act.put, lay9]
  refine tk 10 (v := ?_) rfl ?_ hHeld ?_
  rotate_left
  · (intro w' hSw; obtain ⟨hS0, hS1, hS2, hS3, hS4, hS5⟩ := hSw; go_simp; try with_reducible rfl)
  simp only [Act.put, lay9]
  refine tk 11 (v := ?_) rfl ?_ hHeld ?_
  rotate_left
  · (intro w' hSw; obtain ⟨hS0, hS1, hS2, hS3, hS4, hS5⟩ := hSw; go_simp; try with_reducible rfl)
  simp only [Act.put, lay9]
  refine tk 13 (v := ?_) rfl ?_ hHeld ?_
  rotate_left
  · (intro w' hSw; obtain ⟨hS0, hS1, hS2, hS3, hS4, hS5⟩ := hSw; go_simp; try with_reducible rfl)
  simp only [Act.put, lay9]
  have hs2 : (Tryz.prog.info? 26).map (·.size) = some (#[x0, x1] : Array Value).size := info_shf
  have hs2' : (Tryz.prog.info? 26).map (·.size) = some (#[y0, y1] : Array Value).size := info_shf
  have hone1 : ∀ v ∈ [x0, x1], v.oneCell' = true := by
    intro v hv
    simp only [List.mem_cons, List.not_mem_nil, or_false] at hv
    rcases hv with rfl | rfl
    · exact ox0
    · exact ox1
  have hone2 : ∀ v ∈ [y0, y1], v.oneCell' = true := by
    intro v hv
    simp only [List.mem_cons, List.not_mem_nil, or_false] at hv
    rcases hv with rfl | rfl
    · exact oy0
    · exact oy1
  have hd0 : StBx N S X n V.drew := HB.out.1.keep (Below.refl _ _).drew
  have hT1 : V.drew.there N (i * 2) (#[x0, x1] : Array Value).size := there_at hd0 (by show i * 2 + 2 ≤ 11; omega)
  refine wpAnyH_ready (rs := [12]) (by kernel_rfl) (by simp) (AllReadyH.cons rfl (fun K hK => ?_) AllReadyH.nil)
  refine wp_store_mid 26 _ _ rfl N (i * 2) #[x0, x1] rfl rfl hT1 hs2 (all_oneCell_toArray hone1) ?_
  have h5 := hd0.set hi5 SX ZX
  rw [HX.out.1, HX.out.2.1] at h5
  have h5' : StBx N (upd S i SX) (upd X i ZX) n (V.drew.setCells N (i * 2) [x0, x1]) := h5
  have hk1 : (V.drew.setCells N (i * 2) [x0, x1]).heap[N + 1]? = V.heap[N + 1]? := World.heap_setCells_other V.drew _ _ _ (by show N + 1 < V.heap.size; omega) (by omega)
  have hk2 : (V.drew.setCells N (i * 2) [x0, x1]).heap[N + 2]? = V.heap[N + 2]? := World.heap_setCells_other V.drew _ _ _ (by show N + 2 < V.heap.size; omega) (by omega)
  have hb1 : Below N V (V.drew.setCells N (i * 2) [x0, x1]) := (Below.refl N V).drew.trans (Lib.below_setCells_w (Nat.le_refl N) [x0, x1] (i * 2) _)
  have cs1 : (V.drew.setCells N (i * 2) [x0, x1]).cell? ⟨N + 1, 0, none⟩ = some (.int .u8 (a : Int)) ∧ (V.drew.setCells N (i * 2) [x0, x1]).cell? ⟨N + 1, 1, none⟩ = some (.int .u8 (b : Int)) ∧ (V.drew.setCells N (i * 2) [x0, x1]).cell? ⟨N + 1, 2, none⟩ = some x0 ∧ (V.drew.setCells N (i * 2) [x0, x1]).cell? ⟨N + 1, 3, none⟩ = some x1 ∧ (V.drew.setCells N (i * 2) [x0, x1]).cell? ⟨N + 1, 4, none⟩ = some y0 ∧ (V.drew.setCells N (i * 2) [x0, x1]).cell? ⟨N + 1, 5, none⟩ = some y1 :=
    ⟨(World.cell?_of_block hk1).trans cs.1, (World.cell?_of_block hk1).trans cs.2.1, (World.cell?_of_block hk1).trans cs.2.2.1, (World.cell?_of_block hk1).trans cs.2.2.2.1, (World.cell?_of_block hk1).trans cs.2.2.2.2.1, (World.cell?_of_block hk1).trans cs.2.2.2.2.2⟩
  have h22 : StBx (N + 2) (fun _ => Pl.noSh) (fun _ => ⟨none, 0, none, 0⟩) 0 (V.drew.setCells N (i * 2) [x0, x1]) := hk2.trans HB.out.2.2.1
  have hsz1 : N + 3 ≤ (V.drew.setCells N (i * 2) [x0, x1]).heap.size := by have := hb1.size; omega
  refine hK.out _ _ (by exact cs1) (fun hHeld => ?_)
  clear hK K
  (try simp only [Act.put, lay9])
  obtain ⟨V1, hV1⟩ : ∃ V', V.drew.setCells N (i * 2) [x0, x1] = V' := ⟨_, rfl⟩
  have hV1' : V.drew.setCells N (i * 2) (#[x0, x1] : Array Value).toList = V1 := hV1
  rw [hV1] at h5' hk1 hb1 cs1 h22 hsz1
  try simp only [hV1'] at hHeld
  try simp only [hV1] at hHeld
  try simp only [hV1']
  try simp only [hV1]
  clear hV1' hV1 h5 hT1 hd0
  refine tk 14 (v := ?_) rfl ?_ hHeld ?_
  rotate_left
  · (intro w' hSw; obtain ⟨hS0, hS1, hS2, hS3, hS4, hS5⟩ := hSw; go_simp; try with_reducible rfl)
  simp only [Act.put, lay9]
  refine wpAnyH_ready (rs := [15]) (by kernel_rfl) (by simp) (AllReadyH.cons rfl (fun K hK => ?_) AllReadyH.nil)
  have hT2 : V1.there N (j * 2) (#[y0, y1] : Array Value).size := there_at h5' (by show j * 2 + 2 ≤ 11; omega)
  refine wp_store_mid 26 _ _ rfl N (j * 2) #[y0, y1] rfl rfl hT2 hs2' (all_oneCell_toArray hone2) ?_
  have h6 := h5'.set hj5 SY ZY
  rw [HX.out.2.2.1, HX.out.2.2.2] at h6
  have h6' : StBx N (upd (upd S i SX) j SY) (upd (upd X i ZX) j ZY) n (V1.setCells N (j * 2) [y0, y1]) := h6
  have hk3 : (V1.setCells N (j * 2) [y0, y1]).heap[N + 1]? = V1.heap[N + 1]? := World.heap_setCells_other V1 _ _ _ (by omega) (by omega)
  have hk4 : (V1.setCells N (j * 2) [y0, y1]).heap[N + 2]? = V1.heap[N + 2]? := World.heap_setCells_other V1 _ _ _ (by omega) (by omega)
  have hb2 : Below N V (V1.setCells N (j * 2) [y0, y1]) := hb1.trans (Lib.below_setCells_w (Nat.le_refl N) [y0, y1] (j * 2) _)
  have cs2 : (V1.setCells N (j * 2) [y0, y1]).cell? ⟨N + 1, 0, none⟩ = some (.int .u8 (a : Int)) ∧ (V1.setCells N (j * 2) [y0, y1]).cell? ⟨N + 1, 1, none⟩ = some (.int .u8 (b : Int)) ∧ (V1.setCells N (j * 2) [y0, y1]).cell? ⟨N + 1, 2, none⟩ = some x0 ∧ (V1.setCells N (j * 2) [y0, y1]).cell? ⟨N + 1, 3, none⟩ = some x1 ∧ (V1.setCells N (j * 2) [y0, y1]).cell? ⟨N + 1, 4, none⟩ = some y0 ∧ (V1.setCells N (j * 2) [y0, y1]).cell? ⟨N + 1, 5, none⟩ = some y1 :=
    ⟨(World.cell?_of_block hk3).trans cs1.1, (World.cell?_of_block hk3).trans cs1.2.1, (World.cell?_of_block hk3).trans cs1.2.2.1, (World.cell?_of_block hk3).trans cs1.2.2.2.1, (World.cell?_of_block hk3).trans cs1.2.2.2.2.1, (World.cell?_of_block hk3).trans cs1.2.2.2.2.2⟩
  have h23 : StBx (N + 2) (fun _ => Pl.noSh) (fun _ => ⟨none, 0, none, 0⟩) 0 (V1.setCells N (j * 2) [y0, y1]) := hk4.trans h22
  refine hK.out _ _ (by exact cs2) (fun hHeld => ?_)
  clear hK K
  (try simp only [Act.put, lay9])
  obtain ⟨V2, hV2⟩ : ∃ V', V1.setCells N (j * 2) [y0, y1] = V' := ⟨_, rfl⟩
  have hV2' : V1.setCells N (j * 2) (#[y0, y1] : Array Value).toList = V2 := hV2
  rw [hV2] at h6' hb2 h23
  refine wpAnyH_done (by kernel_rfl) ?_ _
  try simp only [hV2']
  try simp only [hV2]
  have hr6 := h6'.range
  have hi6 := info_stoL (L := stoL (upd (upd S i SX) j SY) (upd (upd X i ZX) j ZY) n) rfl
  have hi6' := info_stoA (L := stoL (upd (upd S i SX) j SY) (upd (upd X i ZX) j ZY) n) rfl
  have ho6 := stoL_one (upd (upd S i SX) j SY) (upd (upd X i ZX) j ZY) n
  obtain ⟨L6, hL6⟩ : ∃ L, stoL (upd (upd S i SX) j SY) (upd (upd X i ZX) j ZY) n = L := ⟨_, rfl⟩
  rw [hL6] at hr6 hi6 hi6' ho6
  have HL6 := Lib.hid hL6
  have hT3 : V2.there (N + 2) 0 L6.toArray.size := thereL h23 (by rw [← hL6]; exact Nat.le_refl 11)
  have HZ := Lib.hid (HB.out.2.2.2.trans hb2)
  clear hHeld hV2 hV2' h6 h6' hb2 h23 hT2 hk1 hk2 hk3 hk4 hb1 cs cs1 cs2 h5' h22 hL6
  go_wp2_with first
    | with_reducible refine wpList_load_mid rfl 33 _ rfl N 0 rfl L6 _ hr6 Tryz.underlying33 rfl hi6 ?_
    | with_reducible refine wpList_store_mid rfl 33 _ _ rfl (N + 2) 0 L6.toArray rfl rfl hT3 hi6' (all_oneCell_toArray ho6) ?_
  refine bodyPost_ret (v := .agg L6.toArray) (results_sto1 (B := N + 2) rfl rfl (World.rangeAt_setCells_same _ _ _ _ (by simpa using hT3)) hi6) rfl ?_
  exact ⟨_, rfl, by rw [← HL6.out], by rw [hN]; exact HZ.out.trans (Lib.below_setCells_w (by omega) L6 0 V2)⟩
end Go.Proofs.YtdnebgilkfafhaaGreatDoor
