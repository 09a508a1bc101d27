/- The walk of isa.Dec. -/
import Derived.Test.YtmmnkoeajdeldaaGreatDoorIsaW1
import Derived.Test.YtmmnkoeajdeldaaGreatDoorAsMem
namespace Go.Proofs.YtmmnkoeajdeldaaGreatDoor
open Go.RowKit
set_option linter.unusedVariables false

def decV (x : Nat) : Value := .tuple #[if Pl.decOk x then insV (Pl.decX x) else .agg #[.int .u8 0, .int .u8 0, .int .u8 0, .int .u8 0, .int .i32 0], .bool (Pl.decOk x)]
set_option maxRecDepth 100000 in
set_option maxHeartbeats 4000000 in
theorem dec_any (x : Nat) (w : World) (h : x < 4294967296) : Calls Tryz.prog 12 #[.int .u32 (x : Int)] w (RetB (fun v _ => v = decV x) w) := by
  obtain ⟨op, hop⟩ : ∃ op, x / 67108864 = op := ⟨_, rfl⟩
  have hop6 : op < 64 := by omega
  have hopi : (x : Int) / 67108864 = (op : Int) := by omega
  obtain ⟨k, hk⟩ : ∃ k, Pl.cls op = k := ⟨_, rfl⟩
  have hk5 := Pl.cls_lt op
  have hfl := fun w => fields_any op w (by omega)
  rw [hk] at hfl hk5
  have hun := fun w => unsigned_any op w (by omega)
  obtain ⟨u, hu⟩ : ∃ u, Pl.usg op = u := ⟨_, rfl⟩
  rw [hu] at hun
  obtain ⟨ra, hra⟩ : ∃ r, x / 4194304 % 16 = r := ⟨_, rfl⟩
  obtain ⟨rb, hrb⟩ : ∃ r, x / 262144 % 16 = r := ⟨_, rfl⟩
  obtain ⟨rc, hrc⟩ : ∃ r, x / 16384 % 16 = r := ⟨_, rfl⟩
  obtain ⟨lo, hlo⟩ : ∃ r, x % 65536 = r := ⟨_, rfl⟩
  have la : ra < 16 := by omega
  have lb : rb < 16 := by omega
  have lc : rc < 16 := by omega
  have ll : lo < 65536 := by omega
  have ea : bits .and .u32 ((x : Int) / 4194304) 15 = (ra : Int) := by
    have := Pl.u32_low 4 (x / 4194304) (by omega) (by omega)
    rw [show (2 : Nat) ^ 4 = 16 from rfl, hra] at this; exact this
  have eb : bits .and .u32 ((x : Int) / 262144) 15 = (rb : Int) := by
    have := Pl.u32_low 4 (x / 262144) (by omega) (by omega)
    rw [show (2 : Nat) ^ 4 = 16 from rfl, hrb] at this; exact this
  have ec : bits .and .u32 ((x : Int) / 16384) 15 = (rc : Int) := by
    have := Pl.u32_low 4 (x / 16384) (by omega) (by omega)
    rw [show (2 : Nat) ^ 4 = 16 from rfl, hrc] at this; exact this
  have el : bits .and .u32 (x : Int) 65535 = (lo : Int) := by
    have := Pl.u32_low 16 x (by omega) (by omega)
    rw [show (2 : Nat) ^ 16 = 65536 from rfl, hlo] at this; exact this
  obtain ⟨si, hsi⟩ : ∃ s, Pl.sext lo = s := ⟨_, rfl⟩
  have hs2 : -32768 ≤ si ∧ si ≤ 32767 := by rw [← hsi]; unfold Pl.sext; split <;> omega
  obtain ⟨hs3, hs4⟩ := hs2
  have es : IntKind.i16.wrap (lo : Int) = si := by rw [← hsi]; exact Pl.wrap_i16 lo ll
  have hdx : Pl.decX x = ⟨op, ra, rb, if k = 1 then rc else 0, if k = 1 then 0 else if u then (lo : Int) else si⟩ := by
    unfold Pl.decX; rw [hop, hk, hu, hra, hrb, hrc, hlo, hsi]
  have henc := fun y w h => enc_any y w h
  have HK := Lib.hid (And.intro hfl (And.intro hun (And.intro hdx (And.intro hk hop)))); clear hfl hk hop hun hu hra hrb hrc hlo hsi hdx
  go_enter Tryz.func12, Tryz.ntmps12
  go_wp2_with fail
  (with_reducible refine (HK.out.1 _).mono ?_)
  rintro e w1 ⟨v, rfl, rfl, hb1⟩
  have hbw1 : Below w.heap.size w w1 := (((Below.refl _ _).alloc (Nat.le_refl _) _).alloc (by simp) _).trans (hb1.mono (by simp; omega))
  have hs1 : w.heap.size + 1 < w1.heap.size := by have := hb1.size; simp at this; omega
  have hs0 : w.heap.size < w1.heap.size := by omega
  have hR : w1.heap[w.heap.size]? = some (.cells #[.int .u8 0, .int .u8 0, .int .u8 0, .int .u8 0, .int .i32 0] 33 (0, 0)) :=
    (hb1.block _ (by simp; omega)).trans ((Below.heap_alloc _ _ _ (by simp)).trans (heap_alloc_new w _))
  have hX : w1.heap[w.heap.size + 1]? = some (.cells #[.int .u8 (op : Int), .int .u8 0, .int .u8 0, .int .u8 0, .int .i32 0] 33 (0, 0)) :=
    (hb1.block _ (by simp)).trans (heap_alloc_2 w _ _)
  have r0 : w1.cell? ⟨w.heap.size, 0, none⟩ = some (.int .u8 0) := cell_row w1 _ 0 _ _ hR
  have r1 : w1.cell? ⟨w.heap.size, 1, none⟩ = some (.int .u8 0) := cell_row w1 _ 1 _ _ hR
  have r2 : w1.cell? ⟨w.heap.size, 2, none⟩ = some (.int .u8 0) := cell_row w1 _ 2 _ _ hR
  have r3 : w1.cell? ⟨w.heap.size, 3, none⟩ = some (.int .u8 0) := cell_row w1 _ 3 _ _ hR
  have r4 : w1.cell? ⟨w.heap.size, 4, none⟩ = some (.int .i32 0) := cell_row w1 _ 4 _ _ hR
  have x0 : w1.cell? ⟨w.heap.size + 1, 0, none⟩ = some (.int .u8 (op : Int)) := cell_row w1 _ 0 _ _ hX
  have x1 : w1.cell? ⟨w.heap.size + 1, 1, none⟩ = some (.int .u8 0) := cell_row w1 _ 1 _ _ hX
  have x2 : w1.cell? ⟨w.heap.size + 1, 2, none⟩ = some (.int .u8 0) := cell_row w1 _ 2 _ _ hX
  have x3 : w1.cell? ⟨w.heap.size + 1, 3, none⟩ = some (.int .u8 0) := cell_row w1 _ 3 _ _ hX
  have x4 : w1.cell? ⟨w.heap.size + 1, 4, none⟩ = some (.int .i32 0) := cell_row w1 _ 4 _ _ hX
  have rf : ∀ i, w1.frozen? ⟨w.heap.size, i, none⟩ = false := fun i => frozen_of w1 _ i _ _ hR
  have xf : ∀ i, w1.frozen? ⟨w.heap.size + 1, i, none⟩ = false := fun i => frozen_of w1 _ i _ _ hX
  have HR := Lib.hid (And.intro hR hX); clear hR hX hb1
  obtain rfl | rfl | rfl | rfl | rfl : k = 0 ∨ k = 1 ∨ k = 2 ∨ k = 3 ∨ k = 4 := by omega
  · have hno : Pl.decOk x = false := by
      unfold Pl.decOk; rw [HK.out.2.2.1]; apply decide_eq_false; intro h
      have := h.1; unfold Pl.encE at this; simp only [HK.out.2.2.2.1] at this; simp at this
    have HN := Lib.hid hno; clear hno
    simp only [fieldsV]
    go_wp2_with fail
    refine bodyPost_ret (v := .tuple #[.agg #[.int .u8 0, .int .u8 0, .int .u8 0, .int .u8 0, .int .i32 0], .bool false]) (by simp [results, Tryz.results12, go_sem, r0, r1, r2, r3, r4, hs0]) rfl ?_
    refine ⟨_, rfl, by unfold decV; rw [HN.out]; rfl, ?_⟩
    exact (((((hbw1.setCell (Nat.le_refl _) _).setCell (Nat.le_refl _) _).setCell (Nat.le_refl _) _).setCell (Nat.le_refl _) _).setCell (Nat.le_refl _) _).alloc (by simp; omega) _
  · simp only [fieldsV]
    go_wp2_with fail
    have hd : Pl.decX x = ⟨op, ra, rb, rc, 0⟩ := by have := HK.out.2.2.1; simpa using this
    have hD := Lib.hid hd; clear hd
    obtain ⟨W, hW⟩ : ∃ W : World, W = (((w1.setCell ⟨w.heap.size + 1, 1, none⟩ (.int .u8 (ra : Int))).setCell ⟨w.heap.size + 1, 2, none⟩ (.int .u8 (rb : Int))).setCell ⟨w.heap.size + 1, 3, none⟩ (.int .u8 (rc : Int))).alloc (.cells #[.bool true, .bool true, .bool true, .bool false] 80) := ⟨_, rfl⟩
    rw [← hW]
    have hok : Pl.InsOk ⟨op, ra, rb, rc, 0⟩ := ⟨by simp only; omega, by simp only; omega, by simp only; omega, by simp only; omega, by simp only; omega, by simp only; omega⟩
    have hen := enc_any ⟨op, ra, rb, rc, 0⟩ W hok
    unfold encV insV at hen
    simp only at hen
    obtain ⟨E, hE⟩ : ∃ E, Pl.encE ⟨op, ra, rb, rc, 0⟩ = E := ⟨_, rfl⟩
    obtain ⟨G, hG⟩ : ∃ G, Pl.encW ⟨op, ra, rb, rc, 0⟩ = G := ⟨_, rfl⟩
    rw [hE, hG] at hen
    have hdo : Pl.decOk x = decide (E = 0 ∧ G = x) := by
      unfold Pl.decOk; rw [hD.out, hE, ← hG]; unfold Pl.encW; rw [hE]
      by_cases h0 : E = 0
      · simp [h0]
      · simp [h0]
    have hXW : W.heap[w.heap.size + 1]? = some (.cells #[.int .u8 (op : Int), .int .u8 (ra : Int), .int .u8 (rb : Int), .int .u8 ((rc : Nat) : Int), .int .i32 (0)] 33 (0, 0)) := by
      rw [hW]; exact (Below.heap_alloc _ _ _ (by simp; omega)).trans (set_at _ _ 3 _ _ _ (set_at _ _ 2 _ _ _ (set_at _ _ 1 _ _ _ HR.out.2)))
    have hRW : W.heap[w.heap.size]? = some (.cells #[.int .u8 0, .int .u8 0, .int .u8 0, .int .u8 0, .int .i32 0] 33 (0, 0)) := by
      rw [hW]; exact (Below.heap_alloc _ _ _ (by simp; omega)).trans ((Below.heap_setCell _ _ _ _ (by simp)).trans ((Below.heap_setCell _ _ _ _ (by simp)).trans ((Below.heap_setCell _ _ _ _ (by simp)).trans HR.out.1)))
    have hbW : Below w.heap.size w W := by
      rw [hW]; exact (((hbw1.setCell (by simp) _).setCell (by simp) _).setCell (by simp) _).alloc (by simp; omega) _
    have hlW : w.heap.size + 1 < W.heap.size := by rw [hW]; simp; omega
    have HW := Lib.hid (And.intro hW (And.intro hE (And.intro hG hdo))); clear hW hE hG hdo ea eb ec el es r0 r1 r2 r3 r4 x0 x1 x2 x3 x4 rf xf
    (with_reducible refine Calls.mono hen ?_)
    rintro e w2 ⟨v, rfl, rfl, hb2⟩
    have hX2 := (hb2.block _ hlW).trans hXW
    have hR2 := (hb2.block w.heap.size (by omega)).trans hRW
    have hb02 := hbW.trans (hb2.mono hbW.size)
    have r0 : w2.cell? ⟨w.heap.size, 0, none⟩ = some (.int .u8 0) := cell_row w2 _ 0 _ _ hR2
    have r1 : w2.cell? ⟨w.heap.size, 1, none⟩ = some (.int .u8 0) := cell_row w2 _ 1 _ _ hR2
    have r2 : w2.cell? ⟨w.heap.size, 2, none⟩ = some (.int .u8 0) := cell_row w2 _ 2 _ _ hR2
    have r3 : w2.cell? ⟨w.heap.size, 3, none⟩ = some (.int .u8 0) := cell_row w2 _ 3 _ _ hR2
    have r4 : w2.cell? ⟨w.heap.size, 4, none⟩ = some (.int .i32 0) := cell_row w2 _ 4 _ _ hR2
    have x0 : w2.cell? ⟨w.heap.size + 1, 0, none⟩ = some (.int .u8 (op : Int)) := cell_row w2 _ 0 _ _ hX2
    have x1 : w2.cell? ⟨w.heap.size + 1, 1, none⟩ = some (.int .u8 (ra : Int)) := cell_row w2 _ 1 _ _ hX2
    have x2 : w2.cell? ⟨w.heap.size + 1, 2, none⟩ = some (.int .u8 (rb : Int)) := cell_row w2 _ 2 _ _ hX2
    have x3 : w2.cell? ⟨w.heap.size + 1, 3, none⟩ = some (.int .u8 (rc : Int)) := cell_row w2 _ 3 _ _ hX2
    have x4 : w2.cell? ⟨w.heap.size + 1, 4, none⟩ = some (.int .i32 (0)) := cell_row w2 _ 4 _ _ hX2
    have rf : ∀ i, w2.frozen? ⟨w.heap.size, i, none⟩ = false := fun i => frozen_of w2 _ i _ _ hR2
    clear hX2 hR2 hRW hXW hen
    by_cases hgd : E = 0 ∧ G = x
    · obtain ⟨rfl, rfl⟩ := hgd
      have hq : ((G : Int) != (G : Int)) = false := by simp
      have hno : Pl.decOk G = true := by rw [HW.out.2.2.2]; simp
      have HN := Lib.hid hno; clear hno
      go_wp2_with fail
      refine bodyPost_ret (v := .tuple #[.agg #[.int .u8 (op : Int), .int .u8 (ra : Int), .int .u8 (rb : Int), .int .u8 (rc : Int), .int .i32 (0)], .bool true]) (by simp [results, Tryz.results12, go_sem, r0, r1, r2, r3, r4]) rfl ?_
      refine ⟨_, rfl, by unfold decV; rw [HN.out, hD.out]; rfl, ?_⟩
      exact ((((hb02.setCell (Nat.le_refl _) _).setCell (Nat.le_refl _) _).setCell (Nat.le_refl _) _).setCell (Nat.le_refl _) _).setCell (Nat.le_refl _) _
    · have hno : Pl.decOk x = false := by rw [HW.out.2.2.2]; simpa using hgd
      have HN := Lib.hid hno; clear hno
      by_cases h0 : E = 0
      · subst h0
        have hq : ((G : Int) != (x : Int)) = true := by simp; omega
        go_wp2_with fail
        refine bodyPost_ret (v := .tuple #[.agg #[.int .u8 0, .int .u8 0, .int .u8 0, .int .u8 0, .int .i32 0], .bool false]) (by simp [results, Tryz.results12, go_sem, r0, r1, r2, r3, r4]) rfl ?_
        refine ⟨_, rfl, by unfold decV; rw [HN.out]; rfl, ?_⟩
        exact ((((hb02.setCell (Nat.le_refl _) _).setCell (Nat.le_refl _) _).setCell (Nat.le_refl _) _).setCell (Nat.le_refl _) _).setCell (Nat.le_refl _) _
      · have hq : ((E : Int) != 0) = true := by simp; omega
        go_wp2_with fail
        refine bodyPost_ret (v := .tuple #[.agg #[.int .u8 0, .int .u8 0, .int .u8 0, .int .u8 0, .int .i32 0], .bool false]) (by simp [results, Tryz.results12, go_sem, r0, r1, r2, r3, r4]) rfl ?_
        refine ⟨_, rfl, by unfold decV; rw [HN.out]; rfl, ?_⟩
        exact ((((hb02.setCell (Nat.le_refl _) _).setCell (Nat.le_refl _) _).setCell (Nat.le_refl _) _).setCell (Nat.le_refl _) _).setCell (Nat.le_refl _) _
  · simp only [fieldsV]
    go_wp2_with fail
    (with_reducible refine (HK.out.2.1 _).mono ?_)
    rintro e w1' ⟨rfl, rfl⟩
    obtain ⟨V, hV⟩ : ∃ V : World, V = (((w1.setCell ⟨w.heap.size + 1, 1, none⟩ (.int .u8 (ra : Int))).setCell ⟨w.heap.size + 1, 2, none⟩ (.int .u8 (rb : Int))).setCell ⟨w.heap.size + 1, 4, none⟩ (.int .i32 (lo : Int))).alloc (.cells #[.bool true, .bool false, .bool false, .bool true] 80) := ⟨_, rfl⟩
    rw [← hV]
    have hXV : V.heap[w.heap.size + 1]? = some (.cells #[.int .u8 (op : Int), .int .u8 (ra : Int), .int .u8 (rb : Int), .int .u8 0, .int .i32 (lo : Int)] 33 (0, 0)) := by
      rw [hV]; exact (Below.heap_alloc _ _ _ (by simp; omega)).trans (set_at _ _ 4 _ _ _ (set_at _ _ 2 _ _ _ (set_at _ _ 1 _ _ _ HR.out.2)))
    have hRV : V.heap[w.heap.size]? = some (.cells #[.int .u8 0, .int .u8 0, .int .u8 0, .int .u8 0, .int .i32 0] 33 (0, 0)) := by
      rw [hV]; exact (Below.heap_alloc _ _ _ (by simp; omega)).trans ((Below.heap_setCell _ _ _ _ (by simp)).trans ((Below.heap_setCell _ _ _ _ (by simp)).trans ((Below.heap_setCell _ _ _ _ (by simp)).trans HR.out.1)))
    have hbV : Below w.heap.size w V := by
      rw [hV]; exact (((hbw1.setCell (by simp) _).setCell (by simp) _).setCell (by simp) _).alloc (by simp; omega) _
    have hlV : w.heap.size + 1 < V.heap.size := by rw [hV]; simp; omega
    clear r0 r1 r2 r3 r4 x0 x1 x2 x3 x4 rf xf hV
    have r0 : True := trivial
    have r1 : True := trivial
    have r2 : True := trivial
    have r3 : True := trivial
    have r4 : True := trivial
    have x0 : V.cell? ⟨w.heap.size + 1, 0, none⟩ = some (.int .u8 (op : Int)) := cell_row V _ 0 _ _ hXV
    have x1 : V.cell? ⟨w.heap.size + 1, 1, none⟩ = some (.int .u8 (ra : Int)) := cell_row V _ 1 _ _ hXV
    have x2 : V.cell? ⟨w.heap.size + 1, 2, none⟩ = some (.int .u8 (rb : Int)) := cell_row V _ 2 _ _ hXV
    have x3 : V.cell? ⟨w.heap.size + 1, 3, none⟩ = some (.int .u8 0) := cell_row V _ 3 _ _ hXV
    have x4 : V.cell? ⟨w.heap.size + 1, 4, none⟩ = some (.int .i32 (lo : Int)) := cell_row V _ 4 _ _ hXV
    have rf : True := trivial
    have xf : ∀ i, V.frozen? ⟨w.heap.size + 1, i, none⟩ = false := fun i => frozen_of V _ i _ _ hXV
    cases u
    · go_wp2_with fail
      have hd : Pl.decX x = ⟨op, ra, rb, 0, si⟩ := by have := HK.out.2.2.1; simpa using this
      have hD := Lib.hid hd; clear hd
      obtain ⟨W, hW⟩ : ∃ W : World, W = V.setCell ⟨w.heap.size + 1, 4, none⟩ (.int .i32 si) := ⟨_, rfl⟩
      rw [← hW]
      have hok : Pl.InsOk ⟨op, ra, rb, 0, si⟩ := ⟨by simp only; omega, by simp only; omega, by simp only; omega, by simp only; omega, by simp only; omega, by simp only; omega⟩
      have hen := enc_any ⟨op, ra, rb, 0, si⟩ W hok
      unfold encV insV at hen
      simp only at hen
      obtain ⟨E, hE⟩ : ∃ E, Pl.encE ⟨op, ra, rb, 0, si⟩ = E := ⟨_, rfl⟩
      obtain ⟨G, hG⟩ : ∃ G, Pl.encW ⟨op, ra, rb, 0, si⟩ = G := ⟨_, rfl⟩
      rw [hE, hG] at hen
      have hdo : Pl.decOk x = decide (E = 0 ∧ G = x) := by
        unfold Pl.decOk; rw [hD.out, hE, ← hG]; unfold Pl.encW; rw [hE]
        by_cases h0 : E = 0
        · simp [h0]
        · simp [h0]
      have hXW : W.heap[w.heap.size + 1]? = some (.cells #[.int .u8 (op : Int), .int .u8 (ra : Int), .int .u8 (rb : Int), .int .u8 ((0 : Nat) : Int), .int .i32 (si)] 33 (0, 0)) := by
        rw [hW]; exact (set_at _ _ 4 _ _ _ hXV)
      have hRW : W.heap[w.heap.size]? = some (.cells #[.int .u8 0, .int .u8 0, .int .u8 0, .int .u8 0, .int .i32 0] 33 (0, 0)) := by
        rw [hW]; exact ((Below.heap_setCell _ _ _ _ (by simp)).trans hRV)
      have hbW : Below w.heap.size w W := by
        rw [hW]; exact (hbV.setCell (by simp) _)
      have hlW : w.heap.size + 1 < W.heap.size := by rw [hW]; simp; exact hlV
      have HW := Lib.hid (And.intro hW (And.intro hE (And.intro hG hdo))); clear hW hE hG hdo ea eb ec el es r0 r1 r2 r3 r4 x0 x1 x2 x3 x4 rf xf
      (with_reducible refine Calls.mono hen ?_)
      rintro e w2 ⟨v, rfl, rfl, hb2⟩
      have hX2 := (hb2.block _ hlW).trans hXW
      have hR2 := (hb2.block w.heap.size (by omega)).trans hRW
      have hb02 := hbW.trans (hb2.mono hbW.size)
      have r0 : w2.cell? ⟨w.heap.size, 0, none⟩ = some (.int .u8 0) := cell_row w2 _ 0 _ _ hR2
      have r1 : w2.cell? ⟨w.heap.size, 1, none⟩ = some (.int .u8 0) := cell_row w2 _ 1 _ _ hR2
      have r2 : w2.cell? ⟨w.heap.size, 2, none⟩ = some (.int .u8 0) := cell_row w2 _ 2 _ _ hR2
      have r3 : w2.cell? ⟨w.heap.size, 3, none⟩ = some (.int .u8 0) := cell_row w2 _ 3 _ _ hR2
      have r4 : w2.cell? ⟨w.heap.size, 4, none⟩ = some (.int .i32 0) := cell_row w2 _ 4 _ _ hR2
      have x0 : w2.cell? ⟨w.heap.size + 1, 0, none⟩ = some (.int .u8 (op : Int)) := cell_row w2 _ 0 _ _ hX2
      have x1 : w2.cell? ⟨w.heap.size + 1, 1, none⟩ = some (.int .u8 (ra : Int)) := cell_row w2 _ 1 _ _ hX2
      have x2 : w2.cell? ⟨w.heap.size + 1, 2, none⟩ = some (.int .u8 (rb : Int)) := cell_row w2 _ 2 _ _ hX2
      have x3 : w2.cell? ⟨w.heap.size + 1, 3, none⟩ = some (.int .u8 0) := cell_row w2 _ 3 _ _ hX2
      have x4 : w2.cell? ⟨w.heap.size + 1, 4, none⟩ = some (.int .i32 (si)) := cell_row w2 _ 4 _ _ hX2
      have rf : ∀ i, w2.frozen? ⟨w.heap.size, i, none⟩ = false := fun i => frozen_of w2 _ i _ _ hR2
      clear hX2 hR2 hRW hXW hen
      by_cases hgd : E = 0 ∧ G = x
      · obtain ⟨rfl, rfl⟩ := hgd
        have hq : ((G : Int) != (G : Int)) = false := by simp
        have hno : Pl.decOk G = true := by rw [HW.out.2.2.2]; simp
        have HN := Lib.hid hno; clear hno
        go_wp2_with fail
        refine bodyPost_ret (v := .tuple #[.agg #[.int .u8 (op : Int), .int .u8 (ra : Int), .int .u8 (rb : Int), .int .u8 0, .int .i32 (si)], .bool true]) (by simp [results, Tryz.results12, go_sem, r0, r1, r2, r3, r4]) rfl ?_
        refine ⟨_, rfl, by unfold decV; rw [HN.out, hD.out]; rfl, ?_⟩
        exact ((((hb02.setCell (Nat.le_refl _) _).setCell (Nat.le_refl _) _).setCell (Nat.le_refl _) _).setCell (Nat.le_refl _) _).setCell (Nat.le_refl _) _
      · have hno : Pl.decOk x = false := by rw [HW.out.2.2.2]; simpa using hgd
        have HN := Lib.hid hno; clear hno
        by_cases h0 : E = 0
        · subst h0
          have hq : ((G : Int) != (x : Int)) = true := by simp; omega
          go_wp2_with fail
          refine bodyPost_ret (v := .tuple #[.agg #[.int .u8 0, .int .u8 0, .int .u8 0, .int .u8 0, .int .i32 0], .bool false]) (by simp [results, Tryz.results12, go_sem, r0, r1, r2, r3, r4]) rfl ?_
          refine ⟨_, rfl, by unfold decV; rw [HN.out]; rfl, ?_⟩
          exact ((((hb02.setCell (Nat.le_refl _) _).setCell (Nat.le_refl _) _).setCell (Nat.le_refl _) _).setCell (Nat.le_refl _) _).setCell (Nat.le_refl _) _
        · have hq : ((E : Int) != 0) = true := by simp; omega
          go_wp2_with fail
          refine bodyPost_ret (v := .tuple #[.agg #[.int .u8 0, .int .u8 0, .int .u8 0, .int .u8 0, .int .i32 0], .bool false]) (by simp [results, Tryz.results12, go_sem, r0, r1, r2, r3, r4]) rfl ?_
          refine ⟨_, rfl, by unfold decV; rw [HN.out]; rfl, ?_⟩
          exact ((((hb02.setCell (Nat.le_refl _) _).setCell (Nat.le_refl _) _).setCell (Nat.le_refl _) _).setCell (Nat.le_refl _) _).setCell (Nat.le_refl _) _
    · go_wp2_with fail
      have hd : Pl.decX x = ⟨op, ra, rb, 0, (lo : Int)⟩ := by have := HK.out.2.2.1; simpa using this
      have hD := Lib.hid hd; clear hd
      obtain ⟨W, hW⟩ : ∃ W : World, W = V := ⟨_, rfl⟩
      rw [← hW]
      have hok : Pl.InsOk ⟨op, ra, rb, 0, (lo : Int)⟩ := ⟨by simp only; omega, by simp only; omega, by simp only; omega, by simp only; omega, by simp only; omega, by simp only; omega⟩
      have hen := enc_any ⟨op, ra, rb, 0, (lo : Int)⟩ W hok
      unfold encV insV at hen
      simp only at hen
      obtain ⟨E, hE⟩ : ∃ E, Pl.encE ⟨op, ra, rb, 0, (lo : Int)⟩ = E := ⟨_, rfl⟩
      obtain ⟨G, hG⟩ : ∃ G, Pl.encW ⟨op, ra, rb, 0, (lo : Int)⟩ = G := ⟨_, rfl⟩
      rw [hE, hG] at hen
      have hdo : Pl.decOk x = decide (E = 0 ∧ G = x) := by
        unfold Pl.decOk; rw [hD.out, hE, ← hG]; unfold Pl.encW; rw [hE]
        by_cases h0 : E = 0
        · simp [h0]
        · simp [h0]
      have hXW : W.heap[w.heap.size + 1]? = some (.cells #[.int .u8 (op : Int), .int .u8 (ra : Int), .int .u8 (rb : Int), .int .u8 ((0 : Nat) : Int), .int .i32 ((lo : Int))] 33 (0, 0)) := by
        rw [hW]; exact hXV
      have hRW : W.heap[w.heap.size]? = some (.cells #[.int .u8 0, .int .u8 0, .int .u8 0, .int .u8 0, .int .i32 0] 33 (0, 0)) := by
        rw [hW]; exact hRV
      have hbW : Below w.heap.size w W := by
        rw [hW]; exact hbV
      have hlW : w.heap.size + 1 < W.heap.size := by rw [hW]; exact hlV
      have HW := Lib.hid (And.intro hW (And.intro hE (And.intro hG hdo))); clear hW hE hG hdo ea eb ec el es r0 r1 r2 r3 r4 x0 x1 x2 x3 x4 rf xf
      (with_reducible refine Calls.mono hen ?_)
      rintro e w2 ⟨v, rfl, rfl, hb2⟩
      have hX2 := (hb2.block _ hlW).trans hXW
      have hR2 := (hb2.block w.heap.size (by omega)).trans hRW
      have hb02 := hbW.trans (hb2.mono hbW.size)
      have r0 : w2.cell? ⟨w.heap.size, 0, none⟩ = some (.int .u8 0) := cell_row w2 _ 0 _ _ hR2
      have r1 : w2.cell? ⟨w.heap.size, 1, none⟩ = some (.int .u8 0) := cell_row w2 _ 1 _ _ hR2
      have r2 : w2.cell? ⟨w.heap.size, 2, none⟩ = some (.int .u8 0) := cell_row w2 _ 2 _ _ hR2
      have r3 : w2.cell? ⟨w.heap.size, 3, none⟩ = some (.int .u8 0) := cell_row w2 _ 3 _ _ hR2
      have r4 : w2.cell? ⟨w.heap.size, 4, none⟩ = some (.int .i32 0) := cell_row w2 _ 4 _ _ hR2
      have x0 : w2.cell? ⟨w.heap.size + 1, 0, none⟩ = some (.int .u8 (op : Int)) := cell_row w2 _ 0 _ _ hX2
      have x1 : w2.cell? ⟨w.heap.size + 1, 1, none⟩ = some (.int .u8 (ra : Int)) := cell_row w2 _ 1 _ _ hX2
      have x2 : w2.cell? ⟨w.heap.size + 1, 2, none⟩ = some (.int .u8 (rb : Int)) := cell_row w2 _ 2 _ _ hX2
      have x3 : w2.cell? ⟨w.heap.size + 1, 3, none⟩ = some (.int .u8 0) := cell_row w2 _ 3 _ _ hX2
      have x4 : w2.cell? ⟨w.heap.size + 1, 4, none⟩ = some (.int .i32 ((lo : Int))) := cell_row w2 _ 4 _ _ hX2
      have rf : ∀ i, w2.frozen? ⟨w.heap.size, i, none⟩ = false := fun i => frozen_of w2 _ i _ _ hR2
      clear hX2 hR2 hRW hXW hen
      by_cases hgd : E = 0 ∧ G = x
      · obtain ⟨rfl, rfl⟩ := hgd
        have hq : ((G : Int) != (G : Int)) = false := by simp
        have hno : Pl.decOk G = true := by rw [HW.out.2.2.2]; simp
        have HN := Lib.hid hno; clear hno
        go_wp2_with fail
        refine bodyPost_ret (v := .tuple #[.agg #[.int .u8 (op : Int), .int .u8 (ra : Int), .int .u8 (rb : Int), .int .u8 0, .int .i32 ((lo : Int))], .bool true]) (by simp [results, Tryz.results12, go_sem, r0, r1, r2, r3, r4]) rfl ?_
        refine ⟨_, rfl, by unfold decV; rw [HN.out, hD.out]; rfl, ?_⟩
        exact ((((hb02.setCell (Nat.le_refl _) _).setCell (Nat.le_refl _) _).setCell (Nat.le_refl _) _).setCell (Nat.le_refl _) _).setCell (Nat.le_refl _) _
      · have hno : Pl.decOk x = false := by rw [HW.out.2.2.2]; simpa using hgd
        have HN := Lib.hid hno; clear hno
        by_cases h0 : E = 0
        · subst h0
          have hq : ((G : Int) != (x : Int)) = true := by simp; omega
          go_wp2_with fail
          refine bodyPost_ret (v := .tuple #[.agg #[.int .u8 0, .int .u8 0, .int .u8 0, .int .u8 0, .int .i32 0], .bool false]) (by simp [results, Tryz.results12, go_sem, r0, r1, r2, r3, r4]) rfl ?_
          refine ⟨_, rfl, by unfold decV; rw [HN.out]; rfl, ?_⟩
          exact ((((hb02.setCell (Nat.le_refl _) _).setCell (Nat.le_refl _) _).setCell (Nat.le_refl _) _).setCell (Nat.le_refl _) _).setCell (Nat.le_refl _) _
        · have hq : ((E : Int) != 0) = true := by simp; omega
          go_wp2_with fail
          refine bodyPost_ret (v := .tuple #[.agg #[.int .u8 0, .int .u8 0, .int .u8 0, .int .u8 0, .int .i32 0], .bool false]) (by simp [results, Tryz.results12, go_sem, r0, r1, r2, r3, r4]) rfl ?_
          refine ⟨_, rfl, by unfold decV; rw [HN.out]; rfl, ?_⟩
          exact ((((hb02.setCell (Nat.le_refl _) _).setCell (Nat.le_refl _) _).setCell (Nat.le_refl _) _).setCell (Nat.le_refl _) _).setCell (Nat.le_refl _) _
  · simp only [fieldsV]
    go_wp2_with fail
    (with_reducible refine (HK.out.2.1 _).mono ?_)
    rintro e w1' ⟨rfl, rfl⟩
    obtain ⟨V, hV⟩ : ∃ V : World, V = (((w1.setCell ⟨w.heap.size + 1, 1, none⟩ (.int .u8 (ra : Int))).setCell ⟨w.heap.size + 1, 2, none⟩ (.int .u8 (rb : Int))).setCell ⟨w.heap.size + 1, 4, none⟩ (.int .i32 (lo : Int))).alloc (.cells #[.bool false, .bool false, .bool false, .bool true] 80) := ⟨_, rfl⟩
    rw [← hV]
    have hXV : V.heap[w.heap.size + 1]? = some (.cells #[.int .u8 (op : Int), .int .u8 (ra : Int), .int .u8 (rb : Int), .int .u8 0, .int .i32 (lo : Int)] 33 (0, 0)) := by
      rw [hV]; exact (Below.heap_alloc _ _ _ (by simp; omega)).trans (set_at _ _ 4 _ _ _ (set_at _ _ 2 _ _ _ (set_at _ _ 1 _ _ _ HR.out.2)))
    have hRV : V.heap[w.heap.size]? = some (.cells #[.int .u8 0, .int .u8 0, .int .u8 0, .int .u8 0, .int .i32 0] 33 (0, 0)) := by
      rw [hV]; exact (Below.heap_alloc _ _ _ (by simp; omega)).trans ((Below.heap_setCell _ _ _ _ (by simp)).trans ((Below.heap_setCell _ _ _ _ (by simp)).trans ((Below.heap_setCell _ _ _ _ (by simp)).trans HR.out.1)))
    have hbV : Below w.heap.size w V := by
      rw [hV]; exact (((hbw1.setCell (by simp) _).setCell (by simp) _).setCell (by simp) _).alloc (by simp; omega) _
    have hlV : w.heap.size + 1 < V.heap.size := by rw [hV]; simp; omega
    clear r0 r1 r2 r3 r4 x0 x1 x2 x3 x4 rf xf hV
    have r0 : True := trivial
    have r1 : True := trivial
    have r2 : True := trivial
    have r3 : True := trivial
    have r4 : True := trivial
    have x0 : V.cell? ⟨w.heap.size + 1, 0, none⟩ = some (.int .u8 (op : Int)) := cell_row V _ 0 _ _ hXV
    have x1 : V.cell? ⟨w.heap.size + 1, 1, none⟩ = some (.int .u8 (ra : Int)) := cell_row V _ 1 _ _ hXV
    have x2 : V.cell? ⟨w.heap.size + 1, 2, none⟩ = some (.int .u8 (rb : Int)) := cell_row V _ 2 _ _ hXV
    have x3 : V.cell? ⟨w.heap.size + 1, 3, none⟩ = some (.int .u8 0) := cell_row V _ 3 _ _ hXV
    have x4 : V.cell? ⟨w.heap.size + 1, 4, none⟩ = some (.int .i32 (lo : Int)) := cell_row V _ 4 _ _ hXV
    have rf : True := trivial
    have xf : ∀ i, V.frozen? ⟨w.heap.size + 1, i, none⟩ = false := fun i => frozen_of V _ i _ _ hXV
    cases u
    · go_wp2_with fail
      have hd : Pl.decX x = ⟨op, ra, rb, 0, si⟩ := by have := HK.out.2.2.1; simpa using this
      have hD := Lib.hid hd; clear hd
      obtain ⟨W, hW⟩ : ∃ W : World, W = V.setCell ⟨w.heap.size + 1, 4, none⟩ (.int .i32 si) := ⟨_, rfl⟩
      rw [← hW]
      have hok : Pl.InsOk ⟨op, ra, rb, 0, si⟩ := ⟨by simp only; omega, by simp only; omega, by simp only; omega, by simp only; omega, by simp only; omega, by simp only; omega⟩
      have hen := enc_any ⟨op, ra, rb, 0, si⟩ W hok
      unfold encV insV at hen
      simp only at hen
      obtain ⟨E, hE⟩ : ∃ E, Pl.encE ⟨op, ra, rb, 0, si⟩ = E := ⟨_, rfl⟩
      obtain ⟨G, hG⟩ : ∃ G, Pl.encW ⟨op, ra, rb, 0, si⟩ = G := ⟨_, rfl⟩
      rw [hE, hG] at hen
      have hdo : Pl.decOk x = decide (E = 0 ∧ G = x) := by
        unfold Pl.decOk; rw [hD.out, hE, ← hG]; unfold Pl.encW; rw [hE]
        by_cases h0 : E = 0
        · simp [h0]
        · simp [h0]
      have hXW : W.heap[w.heap.size + 1]? = some (.cells #[.int .u8 (op : Int), .int .u8 (ra : Int), .int .u8 (rb : Int), .int .u8 ((0 : Nat) : Int), .int .i32 (si)] 33 (0, 0)) := by
        rw [hW]; exact (set_at _ _ 4 _ _ _ hXV)
      have hRW : W.heap[w.heap.size]? = some (.cells #[.int .u8 0, .int .u8 0, .int .u8 0, .int .u8 0, .int .i32 0] 33 (0, 0)) := by
        rw [hW]; exact ((Below.heap_setCell _ _ _ _ (by simp)).trans hRV)
      have hbW : Below w.heap.size w W := by
        rw [hW]; exact (hbV.setCell (by simp) _)
      have hlW : w.heap.size + 1 < W.heap.size := by rw [hW]; simp; exact hlV
      have HW := Lib.hid (And.intro hW (And.intro hE (And.intro hG hdo))); clear hW hE hG hdo ea eb ec el es r0 r1 r2 r3 r4 x0 x1 x2 x3 x4 rf xf
      (with_reducible refine Calls.mono hen ?_)
      rintro e w2 ⟨v, rfl, rfl, hb2⟩
      have hX2 := (hb2.block _ hlW).trans hXW
      have hR2 := (hb2.block w.heap.size (by omega)).trans hRW
      have hb02 := hbW.trans (hb2.mono hbW.size)
      have r0 : w2.cell? ⟨w.heap.size, 0, none⟩ = some (.int .u8 0) := cell_row w2 _ 0 _ _ hR2
      have r1 : w2.cell? ⟨w.heap.size, 1, none⟩ = some (.int .u8 0) := cell_row w2 _ 1 _ _ hR2
      have r2 : w2.cell? ⟨w.heap.size, 2, none⟩ = some (.int .u8 0) := cell_row w2 _ 2 _ _ hR2
      have r3 : w2.cell? ⟨w.heap.size, 3, none⟩ = some (.int .u8 0) := cell_row w2 _ 3 _ _ hR2
      have r4 : w2.cell? ⟨w.heap.size, 4, none⟩ = some (.int .i32 0) := cell_row w2 _ 4 _ _ hR2
      have x0 : w2.cell? ⟨w.heap.size + 1, 0, none⟩ = some (.int .u8 (op : Int)) := cell_row w2 _ 0 _ _ hX2
      have x1 : w2.cell? ⟨w.heap.size + 1, 1, none⟩ = some (.int .u8 (ra : Int)) := cell_row w2 _ 1 _ _ hX2
      have x2 : w2.cell? ⟨w.heap.size + 1, 2, none⟩ = some (.int .u8 (rb : Int)) := cell_row w2 _ 2 _ _ hX2
      have x3 : w2.cell? ⟨w.heap.size + 1, 3, none⟩ = some (.int .u8 0) := cell_row w2 _ 3 _ _ hX2
      have x4 : w2.cell? ⟨w.heap.size + 1, 4, none⟩ = some (.int .i32 (si)) := cell_row w2 _ 4 _ _ hX2
      have rf : ∀ i, w2.frozen? ⟨w.heap.size, i, none⟩ = false := fun i => frozen_of w2 _ i _ _ hR2
      clear hX2 hR2 hRW hXW hen
      by_cases hgd : E = 0 ∧ G = x
      · obtain ⟨rfl, rfl⟩ := hgd
        have hq : ((G : Int) != (G : Int)) = false := by simp
        have hno : Pl.decOk G = true := by rw [HW.out.2.2.2]; simp
        have HN := Lib.hid hno; clear hno
        go_wp2_with fail
        refine bodyPost_ret (v := .tuple #[.agg #[.int .u8 (op : Int), .int .u8 (ra : Int), .int .u8 (rb : Int), .int .u8 0, .int .i32 (si)], .bool true]) (by simp [results, Tryz.results12, go_sem, r0, r1, r2, r3, r4]) rfl ?_
        refine ⟨_, rfl, by unfold decV; rw [HN.out, hD.out]; rfl, ?_⟩
        exact ((((hb02.setCell (Nat.le_refl _) _).setCell (Nat.le_refl _) _).setCell (Nat.le_refl _) _).setCell (Nat.le_refl _) _).setCell (Nat.le_refl _) _
      · have hno : Pl.decOk x = false := by rw [HW.out.2.2.2]; simpa using hgd
        have HN := Lib.hid hno; clear hno
        by_cases h0 : E = 0
        · subst h0
          have hq : ((G : Int) != (x : Int)) = true := by simp; omega
          go_wp2_with fail
          refine bodyPost_ret (v := .tuple #[.agg #[.int .u8 0, .int .u8 0, .int .u8 0, .int .u8 0, .int .i32 0], .bool false]) (by simp [results, Tryz.results12, go_sem, r0, r1, r2, r3, r4]) rfl ?_
          refine ⟨_, rfl, by unfold decV; rw [HN.out]; rfl, ?_⟩
          exact ((((hb02.setCell (Nat.le_refl _) _).setCell (Nat.le_refl _) _).setCell (Nat.le_refl _) _).setCell (Nat.le_refl _) _).setCell (Nat.le_refl _) _
        · have hq : ((E : Int) != 0) = true := by simp; omega
          go_wp2_with fail
          refine bodyPost_ret (v := .tuple #[.agg #[.int .u8 0, .int .u8 0, .int .u8 0, .int .u8 0, .int .i32 0], .bool false]) (by simp [results, Tryz.results12, go_sem, r0, r1, r2, r3, r4]) rfl ?_
          refine ⟨_, rfl, by unfold decV; rw [HN.out]; rfl, ?_⟩
          exact ((((hb02.setCell (Nat.le_refl _) _).setCell (Nat.le_refl _) _).setCell (Nat.le_refl _) _).setCell (Nat.le_refl _) _).setCell (Nat.le_refl _) _
    · go_wp2_with fail
      have hd : Pl.decX x = ⟨op, ra, rb, 0, (lo : Int)⟩ := by have := HK.out.2.2.1; simpa using this
      have hD := Lib.hid hd; clear hd
      obtain ⟨W, hW⟩ : ∃ W : World, W = V := ⟨_, rfl⟩
      rw [← hW]
      have hok : Pl.InsOk ⟨op, ra, rb, 0, (lo : Int)⟩ := ⟨by simp only; omega, by simp only; omega, by simp only; omega, by simp only; omega, by simp only; omega, by simp only; omega⟩
      have hen := enc_any ⟨op, ra, rb, 0, (lo : Int)⟩ W hok
      unfold encV insV at hen
      simp only at hen
      obtain ⟨E, hE⟩ : ∃ E, Pl.encE ⟨op, ra, rb, 0, (lo : Int)⟩ = E := ⟨_, rfl⟩
      obtain ⟨G, hG⟩ : ∃ G, Pl.encW ⟨op, ra, rb, 0, (lo : Int)⟩ = G := ⟨_, rfl⟩
      rw [hE, hG] at hen
      have hdo : Pl.decOk x = decide (E = 0 ∧ G = x) := by
        unfold Pl.decOk; rw [hD.out, hE, ← hG]; unfold Pl.encW; rw [hE]
        by_cases h0 : E = 0
        · simp [h0]
        · simp [h0]
      have hXW : W.heap[w.heap.size + 1]? = some (.cells #[.int .u8 (op : Int), .int .u8 (ra : Int), .int .u8 (rb : Int), .int .u8 ((0 : Nat) : Int), .int .i32 ((lo : Int))] 33 (0, 0)) := by
        rw [hW]; exact hXV
      have hRW : W.heap[w.heap.size]? = some (.cells #[.int .u8 0, .int .u8 0, .int .u8 0, .int .u8 0, .int .i32 0] 33 (0, 0)) := by
        rw [hW]; exact hRV
      have hbW : Below w.heap.size w W := by
        rw [hW]; exact hbV
      have hlW : w.heap.size + 1 < W.heap.size := by rw [hW]; exact hlV
      have HW := Lib.hid (And.intro hW (And.intro hE (And.intro hG hdo))); clear hW hE hG hdo ea eb ec el es r0 r1 r2 r3 r4 x0 x1 x2 x3 x4 rf xf
      (with_reducible refine Calls.mono hen ?_)
      rintro e w2 ⟨v, rfl, rfl, hb2⟩
      have hX2 := (hb2.block _ hlW).trans hXW
      have hR2 := (hb2.block w.heap.size (by omega)).trans hRW
      have hb02 := hbW.trans (hb2.mono hbW.size)
      have r0 : w2.cell? ⟨w.heap.size, 0, none⟩ = some (.int .u8 0) := cell_row w2 _ 0 _ _ hR2
      have r1 : w2.cell? ⟨w.heap.size, 1, none⟩ = some (.int .u8 0) := cell_row w2 _ 1 _ _ hR2
      have r2 : w2.cell? ⟨w.heap.size, 2, none⟩ = some (.int .u8 0) := cell_row w2 _ 2 _ _ hR2
      have r3 : w2.cell? ⟨w.heap.size, 3, none⟩ = some (.int .u8 0) := cell_row w2 _ 3 _ _ hR2
      have r4 : w2.cell? ⟨w.heap.size, 4, none⟩ = some (.int .i32 0) := cell_row w2 _ 4 _ _ hR2
      have x0 : w2.cell? ⟨w.heap.size + 1, 0, none⟩ = some (.int .u8 (op : Int)) := cell_row w2 _ 0 _ _ hX2
      have x1 : w2.cell? ⟨w.heap.size + 1, 1, none⟩ = some (.int .u8 (ra : Int)) := cell_row w2 _ 1 _ _ hX2
      have x2 : w2.cell? ⟨w.heap.size + 1, 2, none⟩ = some (.int .u8 (rb : Int)) := cell_row w2 _ 2 _ _ hX2
      have x3 : w2.cell? ⟨w.heap.size + 1, 3, none⟩ = some (.int .u8 0) := cell_row w2 _ 3 _ _ hX2
      have x4 : w2.cell? ⟨w.heap.size + 1, 4, none⟩ = some (.int .i32 ((lo : Int))) := cell_row w2 _ 4 _ _ hX2
      have rf : ∀ i, w2.frozen? ⟨w.heap.size, i, none⟩ = false := fun i => frozen_of w2 _ i _ _ hR2
      clear hX2 hR2 hRW hXW hen
      by_cases hgd : E = 0 ∧ G = x
      · obtain ⟨rfl, rfl⟩ := hgd
        have hq : ((G : Int) != (G : Int)) = false := by simp
        have hno : Pl.decOk G = true := by rw [HW.out.2.2.2]; simp
        have HN := Lib.hid hno; clear hno
        go_wp2_with fail
        refine bodyPost_ret (v := .tuple #[.agg #[.int .u8 (op : Int), .int .u8 (ra : Int), .int .u8 (rb : Int), .int .u8 0, .int .i32 ((lo : Int))], .bool true]) (by simp [results, Tryz.results12, go_sem, r0, r1, r2, r3, r4]) rfl ?_
        refine ⟨_, rfl, by unfold decV; rw [HN.out, hD.out]; rfl, ?_⟩
        exact ((((hb02.setCell (Nat.le_refl _) _).setCell (Nat.le_refl _) _).setCell (Nat.le_refl _) _).setCell (Nat.le_refl _) _).setCell (Nat.le_refl _) _
      · have hno : Pl.decOk x = false := by rw [HW.out.2.2.2]; simpa using hgd
        have HN := Lib.hid hno; clear hno
        by_cases h0 : E = 0
        · subst h0
          have hq : ((G : Int) != (x : Int)) = true := by simp; omega
          go_wp2_with fail
          refine bodyPost_ret (v := .tuple #[.agg #[.int .u8 0, .int .u8 0, .int .u8 0, .int .u8 0, .int .i32 0], .bool false]) (by simp [results, Tryz.results12, go_sem, r0, r1, r2, r3, r4]) rfl ?_
          refine ⟨_, rfl, by unfold decV; rw [HN.out]; rfl, ?_⟩
          exact ((((hb02.setCell (Nat.le_refl _) _).setCell (Nat.le_refl _) _).setCell (Nat.le_refl _) _).setCell (Nat.le_refl _) _).setCell (Nat.le_refl _) _
        · have hq : ((E : Int) != 0) = true := by simp; omega
          go_wp2_with fail
          refine bodyPost_ret (v := .tuple #[.agg #[.int .u8 0, .int .u8 0, .int .u8 0, .int .u8 0, .int .i32 0], .bool false]) (by simp [results, Tryz.results12, go_sem, r0, r1, r2, r3, r4]) rfl ?_
          refine ⟨_, rfl, by unfold decV; rw [HN.out]; rfl, ?_⟩
          exact ((((hb02.setCell (Nat.le_refl _) _).setCell (Nat.le_refl _) _).setCell (Nat.le_refl _) _).setCell (Nat.le_refl _) _).setCell (Nat.le_refl _) _
  · simp only [fieldsV]
    go_wp2_with fail
    (with_reducible refine (HK.out.2.1 _).mono ?_)
    rintro e w1' ⟨rfl, rfl⟩
    obtain ⟨V, hV⟩ : ∃ V : World, V = (((w1.setCell ⟨w.heap.size + 1, 1, none⟩ (.int .u8 (ra : Int))).setCell ⟨w.heap.size + 1, 2, none⟩ (.int .u8 (rb : Int))).setCell ⟨w.heap.size + 1, 4, none⟩ (.int .i32 (lo : Int))).alloc (.cells #[.bool true, .bool true, .bool false, .bool true] 80) := ⟨_, rfl⟩
    rw [← hV]
    have hXV : V.heap[w.heap.size + 1]? = some (.cells #[.int .u8 (op : Int), .int .u8 (ra : Int), .int .u8 (rb : Int), .int .u8 0, .int .i32 (lo : Int)] 33 (0, 0)) := by
      rw [hV]; exact (Below.heap_alloc _ _ _ (by simp; omega)).trans (set_at _ _ 4 _ _ _ (set_at _ _ 2 _ _ _ (set_at _ _ 1 _ _ _ HR.out.2)))
    have hRV : V.heap[w.heap.size]? = some (.cells #[.int .u8 0, .int .u8 0, .int .u8 0, .int .u8 0, .int .i32 0] 33 (0, 0)) := by
      rw [hV]; exact (Below.heap_alloc _ _ _ (by simp; omega)).trans ((Below.heap_setCell _ _ _ _ (by simp)).trans ((Below.heap_setCell _ _ _ _ (by simp)).trans ((Below.heap_setCell _ _ _ _ (by simp)).trans HR.out.1)))
    have hbV : Below w.heap.size w V := by
      rw [hV]; exact (((hbw1.setCell (by simp) _).setCell (by simp) _).setCell (by simp) _).alloc (by simp; omega) _
    have hlV : w.heap.size + 1 < V.heap.size := by rw [hV]; simp; omega
    clear r0 r1 r2 r3 r4 x0 x1 x2 x3 x4 rf xf hV
    have r0 : True := trivial
    have r1 : True := trivial
    have r2 : True := trivial
    have r3 : True := trivial
    have r4 : True := trivial
    have x0 : V.cell? ⟨w.heap.size + 1, 0, none⟩ = some (.int .u8 (op : Int)) := cell_row V _ 0 _ _ hXV
    have x1 : V.cell? ⟨w.heap.size + 1, 1, none⟩ = some (.int .u8 (ra : Int)) := cell_row V _ 1 _ _ hXV
    have x2 : V.cell? ⟨w.heap.size + 1, 2, none⟩ = some (.int .u8 (rb : Int)) := cell_row V _ 2 _ _ hXV
    have x3 : V.cell? ⟨w.heap.size + 1, 3, none⟩ = some (.int .u8 0) := cell_row V _ 3 _ _ hXV
    have x4 : V.cell? ⟨w.heap.size + 1, 4, none⟩ = some (.int .i32 (lo : Int)) := cell_row V _ 4 _ _ hXV
    have rf : True := trivial
    have xf : ∀ i, V.frozen? ⟨w.heap.size + 1, i, none⟩ = false := fun i => frozen_of V _ i _ _ hXV
    cases u
    · go_wp2_with fail
      have hd : Pl.decX x = ⟨op, ra, rb, 0, si⟩ := by have := HK.out.2.2.1; simpa using this
      have hD := Lib.hid hd; clear hd
      obtain ⟨W, hW⟩ : ∃ W : World, W = V.setCell ⟨w.heap.size + 1, 4, none⟩ (.int .i32 si) := ⟨_, rfl⟩
      rw [← hW]
      have hok : Pl.InsOk ⟨op, ra, rb, 0, si⟩ := ⟨by simp only; omega, by simp only; omega, by simp only; omega, by simp only; omega, by simp only; omega, by simp only; omega⟩
      have hen := enc_any ⟨op, ra, rb, 0, si⟩ W hok
      unfold encV insV at hen
      simp only at hen
      obtain ⟨E, hE⟩ : ∃ E, Pl.encE ⟨op, ra, rb, 0, si⟩ = E := ⟨_, rfl⟩
      obtain ⟨G, hG⟩ : ∃ G, Pl.encW ⟨op, ra, rb, 0, si⟩ = G := ⟨_, rfl⟩
      rw [hE, hG] at hen
      have hdo : Pl.decOk x = decide (E = 0 ∧ G = x) := by
        unfold Pl.decOk; rw [hD.out, hE, ← hG]; unfold Pl.encW; rw [hE]
        by_cases h0 : E = 0
        · simp [h0]
        · simp [h0]
      have hXW : W.heap[w.heap.size + 1]? = some (.cells #[.int .u8 (op : Int), .int .u8 (ra : Int), .int .u8 (rb : Int), .int .u8 ((0 : Nat) : Int), .int .i32 (si)] 33 (0, 0)) := by
        rw [hW]; exact (set_at _ _ 4 _ _ _ hXV)
      have hRW : W.heap[w.heap.size]? = some (.cells #[.int .u8 0, .int .u8 0, .int .u8 0, .int .u8 0, .int .i32 0] 33 (0, 0)) := by
        rw [hW]; exact ((Below.heap_setCell _ _ _ _ (by simp)).trans hRV)
      have hbW : Below w.heap.size w W := by
        rw [hW]; exact (hbV.setCell (by simp) _)
      have hlW : w.heap.size + 1 < W.heap.size := by rw [hW]; simp; exact hlV
      have HW := Lib.hid (And.intro hW (And.intro hE (And.intro hG hdo))); clear hW hE hG hdo ea eb ec el es r0 r1 r2 r3 r4 x0 x1 x2 x3 x4 rf xf
      (with_reducible refine Calls.mono hen ?_)
      rintro e w2 ⟨v, rfl, rfl, hb2⟩
      have hX2 := (hb2.block _ hlW).trans hXW
      have hR2 := (hb2.block w.heap.size (by omega)).trans hRW
      have hb02 := hbW.trans (hb2.mono hbW.size)
      have r0 : w2.cell? ⟨w.heap.size, 0, none⟩ = some (.int .u8 0) := cell_row w2 _ 0 _ _ hR2
      have r1 : w2.cell? ⟨w.heap.size, 1, none⟩ = some (.int .u8 0) := cell_row w2 _ 1 _ _ hR2
      have r2 : w2.cell? ⟨w.heap.size, 2, none⟩ = some (.int .u8 0) := cell_row w2 _ 2 _ _ hR2
      have r3 : w2.cell? ⟨w.heap.size, 3, none⟩ = some (.int .u8 0) := cell_row w2 _ 3 _ _ hR2
      have r4 : w2.cell? ⟨w.heap.size, 4, none⟩ = some (.int .i32 0) := cell_row w2 _ 4 _ _ hR2
      have x0 : w2.cell? ⟨w.heap.size + 1, 0, none⟩ = some (.int .u8 (op : Int)) := cell_row w2 _ 0 _ _ hX2
      have x1 : w2.cell? ⟨w.heap.size + 1, 1, none⟩ = some (.int .u8 (ra : Int)) := cell_row w2 _ 1 _ _ hX2
      have x2 : w2.cell? ⟨w.heap.size + 1, 2, none⟩ = some (.int .u8 (rb : Int)) := cell_row w2 _ 2 _ _ hX2
      have x3 : w2.cell? ⟨w.heap.size + 1, 3, none⟩ = some (.int .u8 0) := cell_row w2 _ 3 _ _ hX2
      have x4 : w2.cell? ⟨w.heap.size + 1, 4, none⟩ = some (.int .i32 (si)) := cell_row w2 _ 4 _ _ hX2
      have rf : ∀ i, w2.frozen? ⟨w.heap.size, i, none⟩ = false := fun i => frozen_of w2 _ i _ _ hR2
      clear hX2 hR2 hRW hXW hen
      by_cases hgd : E = 0 ∧ G = x
      · obtain ⟨rfl, rfl⟩ := hgd
        have hq : ((G : Int) != (G : Int)) = false := by simp
        have hno : Pl.decOk G = true := by rw [HW.out.2.2.2]; simp
        have HN := Lib.hid hno; clear hno
        go_wp2_with fail
        refine bodyPost_ret (v := .tuple #[.agg #[.int .u8 (op : Int), .int .u8 (ra : Int), .int .u8 (rb : Int), .int .u8 0, .int .i32 (si)], .bool true]) (by simp [results, Tryz.results12, go_sem, r0, r1, r2, r3, r4]) rfl ?_
        refine ⟨_, rfl, by unfold decV; rw [HN.out, hD.out]; rfl, ?_⟩
        exact ((((hb02.setCell (Nat.le_refl _) _).setCell (Nat.le_refl _) _).setCell (Nat.le_refl _) _).setCell (Nat.le_refl _) _).setCell (Nat.le_refl _) _
      · have hno : Pl.decOk x = false := by rw [HW.out.2.2.2]; simpa using hgd
        have HN := Lib.hid hno; clear hno
        by_cases h0 : E = 0
        · subst h0
          have hq : ((G : Int) != (x : Int)) = true := by simp; omega
          go_wp2_with fail
          refine bodyPost_ret (v := .tuple #[.agg #[.int .u8 0, .int .u8 0, .int .u8 0, .int .u8 0, .int .i32 0], .bool false]) (by simp [results, Tryz.results12, go_sem, r0, r1, r2, r3, r4]) rfl ?_
          refine ⟨_, rfl, by unfold decV; rw [HN.out]; rfl, ?_⟩
          exact ((((hb02.setCell (Nat.le_refl _) _).setCell (Nat.le_refl _) _).setCell (Nat.le_refl _) _).setCell (Nat.le_refl _) _).setCell (Nat.le_refl _) _
        · have hq : ((E : Int) != 0) = true := by simp; omega
          go_wp2_with fail
          refine bodyPost_ret (v := .tuple #[.agg #[.int .u8 0, .int .u8 0, .int .u8 0, .int .u8 0, .int .i32 0], .bool false]) (by simp [results, Tryz.results12, go_sem, r0, r1, r2, r3, r4]) rfl ?_
          refine ⟨_, rfl, by unfold decV; rw [HN.out]; rfl, ?_⟩
          exact ((((hb02.setCell (Nat.le_refl _) _).setCell (Nat.le_refl _) _).setCell (Nat.le_refl _) _).setCell (Nat.le_refl _) _).setCell (Nat.le_refl _) _
    · go_wp2_with fail
      have hd : Pl.decX x = ⟨op, ra, rb, 0, (lo : Int)⟩ := by have := HK.out.2.2.1; simpa using this
      have hD := Lib.hid hd; clear hd
      obtain ⟨W, hW⟩ : ∃ W : World, W = V := ⟨_, rfl⟩
      rw [← hW]
      have hok : Pl.InsOk ⟨op, ra, rb, 0, (lo : Int)⟩ := ⟨by simp only; omega, by simp only; omega, by simp only; omega, by simp only; omega, by simp only; omega, by simp only; omega⟩
      have hen := enc_any ⟨op, ra, rb, 0, (lo : Int)⟩ W hok
      unfold encV insV at hen
      simp only at hen
      obtain ⟨E, hE⟩ : ∃ E, Pl.encE ⟨op, ra, rb, 0, (lo : Int)⟩ = E := ⟨_, rfl⟩
      obtain ⟨G, hG⟩ : ∃ G, Pl.encW ⟨op, ra, rb, 0, (lo : Int)⟩ = G := ⟨_, rfl⟩
      rw [hE, hG] at hen
      have hdo : Pl.decOk x = decide (E = 0 ∧ G = x) := by
        unfold Pl.decOk; rw [hD.out, hE, ← hG]; unfold Pl.encW; rw [hE]
        by_cases h0 : E = 0
        · simp [h0]
        · simp [h0]
      have hXW : W.heap[w.heap.size + 1]? = some (.cells #[.int .u8 (op : Int), .int .u8 (ra : Int), .int .u8 (rb : Int), .int .u8 ((0 : Nat) : Int), .int .i32 ((lo : Int))] 33 (0, 0)) := by
        rw [hW]; exact hXV
      have hRW : W.heap[w.heap.size]? = some (.cells #[.int .u8 0, .int .u8 0, .int .u8 0, .int .u8 0, .int .i32 0] 33 (0, 0)) := by
        rw [hW]; exact hRV
      have hbW : Below w.heap.size w W := by
        rw [hW]; exact hbV
      have hlW : w.heap.size + 1 < W.heap.size := by rw [hW]; exact hlV
      have HW := Lib.hid (And.intro hW (And.intro hE (And.intro hG hdo))); clear hW hE hG hdo ea eb ec el es r0 r1 r2 r3 r4 x0 x1 x2 x3 x4 rf xf
      (with_reducible refine Calls.mono hen ?_)
      rintro e w2 ⟨v, rfl, rfl, hb2⟩
      have hX2 := (hb2.block _ hlW).trans hXW
      have hR2 := (hb2.block w.heap.size (by omega)).trans hRW
      have hb02 := hbW.trans (hb2.mono hbW.size)
      have r0 : w2.cell? ⟨w.heap.size, 0, none⟩ = some (.int .u8 0) := cell_row w2 _ 0 _ _ hR2
      have r1 : w2.cell? ⟨w.heap.size, 1, none⟩ = some (.int .u8 0) := cell_row w2 _ 1 _ _ hR2
      have r2 : w2.cell? ⟨w.heap.size, 2, none⟩ = some (.int .u8 0) := cell_row w2 _ 2 _ _ hR2
      have r3 : w2.cell? ⟨w.heap.size, 3, none⟩ = some (.int .u8 0) := cell_row w2 _ 3 _ _ hR2
      have r4 : w2.cell? ⟨w.heap.size, 4, none⟩ = some (.int .i32 0) := cell_row w2 _ 4 _ _ hR2
      have x0 : w2.cell? ⟨w.heap.size + 1, 0, none⟩ = some (.int .u8 (op : Int)) := cell_row w2 _ 0 _ _ hX2
      have x1 : w2.cell? ⟨w.heap.size + 1, 1, none⟩ = some (.int .u8 (ra : Int)) := cell_row w2 _ 1 _ _ hX2
      have x2 : w2.cell? ⟨w.heap.size + 1, 2, none⟩ = some (.int .u8 (rb : Int)) := cell_row w2 _ 2 _ _ hX2
      have x3 : w2.cell? ⟨w.heap.size + 1, 3, none⟩ = some (.int .u8 0) := cell_row w2 _ 3 _ _ hX2
      have x4 : w2.cell? ⟨w.heap.size + 1, 4, none⟩ = some (.int .i32 ((lo : Int))) := cell_row w2 _ 4 _ _ hX2
      have rf : ∀ i, w2.frozen? ⟨w.heap.size, i, none⟩ = false := fun i => frozen_of w2 _ i _ _ hR2
      clear hX2 hR2 hRW hXW hen
      by_cases hgd : E = 0 ∧ G = x
      · obtain ⟨rfl, rfl⟩ := hgd
        have hq : ((G : Int) != (G : Int)) = false := by simp
        have hno : Pl.decOk G = true := by rw [HW.out.2.2.2]; simp
        have HN := Lib.hid hno; clear hno
        go_wp2_with fail
        refine bodyPost_ret (v := .tuple #[.agg #[.int .u8 (op : Int), .int .u8 (ra : Int), .int .u8 (rb : Int), .int .u8 0, .int .i32 ((lo : Int))], .bool true]) (by simp [results, Tryz.results12, go_sem, r0, r1, r2, r3, r4]) rfl ?_
        refine ⟨_, rfl, by unfold decV; rw [HN.out, hD.out]; rfl, ?_⟩
        exact ((((hb02.setCell (Nat.le_refl _) _).setCell (Nat.le_refl _) _).setCell (Nat.le_refl _) _).setCell (Nat.le_refl _) _).setCell (Nat.le_refl _) _
      · have hno : Pl.decOk x = false := by rw [HW.out.2.2.2]; simpa using hgd
        have HN := Lib.hid hno; clear hno
        by_cases h0 : E = 0
        · subst h0
          have hq : ((G : Int) != (x : Int)) = true := by simp; omega
          go_wp2_with fail
          refine bodyPost_ret (v := .tuple #[.agg #[.int .u8 0, .int .u8 0, .int .u8 0, .int .u8 0, .int .i32 0], .bool false]) (by simp [results, Tryz.results12, go_sem, r0, r1, r2, r3, r4]) rfl ?_
          refine ⟨_, rfl, by unfold decV; rw [HN.out]; rfl, ?_⟩
          exact ((((hb02.setCell (Nat.le_refl _) _).setCell (Nat.le_refl _) _).setCell (Nat.le_refl _) _).setCell (Nat.le_refl _) _).setCell (Nat.le_refl _) _
        · have hq : ((E : Int) != 0) = true := by simp; omega
          go_wp2_with fail
          refine bodyPost_ret (v := .tuple #[.agg #[.int .u8 0, .int .u8 0, .int .u8 0, .int .u8 0, .int .i32 0], .bool false]) (by simp [results, Tryz.results12, go_sem, r0, r1, r2, r3, r4]) rfl ?_
          refine ⟨_, rfl, by unfold decV; rw [HN.out]; rfl, ?_⟩
          exact ((((hb02.setCell (Nat.le_refl _) _).setCell (Nat.le_refl _) _).setCell (Nat.le_refl _) _).setCell (Nat.le_refl _) _).setCell (Nat.le_refl _) _
end Go.Proofs.YtmmnkoeajdeldaaGreatDoor
