/- The document's Dec (chapter 10): the instruction of a word. -/
import Derived.Test.YtmmnkoeajdeldaaGreatDoorIsaR2
import Derived.Test.YtmmnkoeajdeldaaGreatDoorIsaD
namespace Go.Proofs.YtmmnkoeajdeldaaGreatDoor
open Go.RowKit
set_option linter.unusedVariables false
set_option linter.unusedSimpArgs false
set_option maxRecDepth 100000 in
set_option maxHeartbeats 4000000 in
theorem rdec_any (x : Nat) (w : World) (h : x < 4294967296) : Calls Tryz.prog 47 #[.int .u32 (x : Int)] w (RetB (fun v _ => v = decV x) w) := by
  obtain ⟨op, hop⟩ : ∃ op, x / 67108864 = op := ⟨_, rfl⟩
  have hop6 : op < 64 := by omega
  have hopi : (x : Int) / 67108864 = (op : Int) := by omega
  have hfo := fun W => rform_any op W (by omega)
  have hpl := fun W => rplain_any op W (by omega)
  have hfc : Pl.formN op = 1 ↔ Pl.cls op = 1 := by unfold Pl.formN Pl.cls; (repeat' split) <;> omega
  obtain ⟨f, hf⟩ : ∃ f, Pl.formN op = f := ⟨_, rfl⟩
  rw [hf] at hfo hfc
  obtain ⟨k, hk⟩ : ∃ k, Pl.cls op = k := ⟨_, rfl⟩
  rw [hk] at hfc
  obtain ⟨u, hu⟩ : ∃ u, Pl.usg op = u := ⟨_, rfl⟩
  rw [hu] at hpl
  obtain ⟨ra, hra⟩ : ∃ r, x / 4194304 % 16 = r := ⟨_, rfl⟩
  obtain ⟨rb, hrb⟩ : ∃ r, x / 262144 % 16 = r := ⟨_, rfl⟩
  obtain ⟨rc, hrc⟩ : ∃ r, x / 16384 % 16 = r := ⟨_, rfl⟩
  obtain ⟨lo, hlo⟩ : ∃ r, x % 65536 = r := ⟨_, rfl⟩
  have la : ra < 16 := by omega
  have lb : rb < 16 := by omega
  have lc : rc < 16 := by omega
  have ll : lo < 65536 := by omega
  have ea : (x : Int) / 4194304 % 16 = (ra : Int) := by omega
  have eb : (x : Int) / 262144 % 16 = (rb : Int) := by omega
  have ec : (x : Int) / 16384 % 16 = (rc : Int) := by omega
  have el : (x : Int) % 65536 = (lo : Int) := by omega
  have wo : IntKind.u8.wrap (op : Int) = (op : Int) := by rw [IntKind.wrap_u8]; omega
  have wa : IntKind.u8.wrap (ra : Int) = (ra : Int) := by rw [IntKind.wrap_u8]; omega
  have wb : IntKind.u8.wrap (rb : Int) = (rb : Int) := by rw [IntKind.wrap_u8]; omega
  have wc : IntKind.u8.wrap (rc : Int) = (rc : Int) := by rw [IntKind.wrap_u8]; omega
  have wl : IntKind.i32.wrap (lo : Int) = (lo : Int) := IntWalk.i32_in _ (by omega)
  obtain ⟨si, hsi⟩ : ∃ s, Pl.sext lo = s := ⟨_, rfl⟩
  have hs2 : (lo ≤ 32767 → si = (lo : Int)) ∧ (32767 < lo → si = (lo : Int) - 65536) := by rw [← hsi]; unfold Pl.sext; (constructor <;> intro _) <;> split <;> omega
  have hdx : Pl.decX x = ⟨op, ra, rb, if k = 1 then rc else 0, if k = 1 then 0 else if u then (lo : Int) else si⟩ := by
    unfold Pl.decX; rw [hop, hk, hu, hra, hrb, hrc, hlo, hsi]
  have HK := Lib.hid (And.intro hfo (And.intro hpl (And.intro hdx (And.intro hfc hs2))))
  clear hfo hk hop hpl hu hra hrb hrc hlo hsi hdx hf hfc hs2
  go_enter Tryz.func47, Tryz.ntmps47
  go_wp2_with fail
  refine (HK.out.1 _).mono ?_
  rintro e w0 ⟨rfl, hw0⟩
  obtain ⟨B, hB⟩ : ∃ B, w.heap.size = B := ⟨_, rfl⟩
  have hR : w0.heap[B]? = some (.cells #[.int .u8 0, .int .u8 0, .int .u8 0, .int .u8 0, .int .i32 0] 33 (0, 0)) := by
    rw [← hw0, ← hB]; exact (Below.heap_alloc _ _ _ (by simp)).trans (heap_alloc_new w _)
  have hX : w0.heap[B + 1]? = some (.cells #[.int .u8 (op : Int), .int .u8 (ra : Int), .int .u8 (rb : Int), .int .u8 0, .int .i32 0] 33 (0, 0)) := by
    rw [← hw0, ← hB]; exact heap_alloc_2 w _ _
  have hb0 : Below w.heap.size w w0 := by rw [← hw0]; exact ((Below.refl _ _).alloc (Nat.le_refl _) _).alloc (by simp) _
  rw [hB] at hb0 ⊢
  clear hw0
  have x0 : w0.cell? ⟨B + 1, 0, none⟩ = some (.int .u8 (op : Int)) := cell_row w0 _ 0 _ _ hX
  have x1 : w0.cell? ⟨B + 1, 1, none⟩ = some (.int .u8 (ra : Int)) := cell_row w0 _ 1 _ _ hX
  have x2 : w0.cell? ⟨B + 1, 2, none⟩ = some (.int .u8 (rb : Int)) := cell_row w0 _ 2 _ _ hX
  have x3 : w0.cell? ⟨B + 1, 3, none⟩ = some (.int .u8 0) := cell_row w0 _ 3 _ _ hX
  have x4 : w0.cell? ⟨B + 1, 4, none⟩ = some (.int .i32 0) := cell_row w0 _ 4 _ _ hX
  have xf : ∀ i, w0.frozen? ⟨B + 1, i, none⟩ = false := fun i => frozen_of w0 _ i _ _ hX
  have hs1 : B + 1 < w0.heap.size := blk_lt hX
  have HR := Lib.hid (And.intro hR (And.intro hX (And.intro hb0 hB)))
  clear hR hX hb0
  by_cases h1 : f = 1
  · have hk1 : k = 1 := HK.out.2.2.2.1.1 h1
    subst h1
    go_upto_region 7 with (fail)
    have hd : Pl.decX x = ⟨op, ra, rb, rc, 0⟩ := by rw [HK.out.2.2.1, if_pos hk1, if_pos hk1]
    have hD := Lib.hid hd
    clear hd
    obtain ⟨W, hW⟩ : ∃ W : World, (w0.setCell ⟨B + 1, 3, none⟩ (.int .u8 (rc : Int))) = W := ⟨_, rfl⟩
    have hXW : W.heap[B + 1]? = some (.cells #[.int .u8 (op : Int), .int .u8 (ra : Int), .int .u8 (rb : Int), .int .u8 (rc : Int), .int .i32 (0)] 33 (0, 0)) := by
      rw [← hW]; exact set_at _ _ 3 _ _ _ HR.out.2.1
    have hRW : W.heap[B]? = some (.cells #[.int .u8 0, .int .u8 0, .int .u8 0, .int .u8 0, .int .i32 0] 33 (0, 0)) := by
      rw [← hW]; exact ((Below.heap_setCell _ _ _ _ (by simp)).trans (HR.out.1))
    have hbW : Below B w W := by rw [← hW]; exact ((HR.out.2.2.1).setCell (Nat.le_succ _) _)
    rw [hW]
    have hlW : B + 1 < W.heap.size := blk_lt hXW
    have hok : Pl.InsOk ⟨op, ra, rb, rc, 0⟩ := ⟨by simp only; omega, by simp only; omega, by simp only; omega, by simp only; omega, by simp only; omega, by simp only; omega⟩
    have hen := renc_any ⟨op, ra, rb, rc, 0⟩ W hok
    unfold encV insV at hen
    simp only at hen
    obtain ⟨E, hE⟩ : ∃ E, Pl.encE ⟨op, ra, rb, rc, 0⟩ = E := ⟨_, rfl⟩
    obtain ⟨G, hG⟩ : ∃ G, Pl.encW ⟨op, ra, rb, rc, 0⟩ = G := ⟨_, rfl⟩
    rw [hE, hG] at hen
    have hdo : Pl.decOk x = decide (E = 0 ∧ G = x) := by
      unfold Pl.decOk; rw [hD.out, hE, ← hG]; unfold Pl.encW; rw [hE]
      by_cases h0 : E = 0
      · simp [h0]
      · simp [h0]
    have HW := Lib.hid (And.intro hE (And.intro hG hdo))
    have HEN := Lib.hid hen
    have y0 : W.cell? ⟨B + 1, 0, none⟩ = some (.int .u8 (op : Int)) := cell_row W _ 0 _ _ hXW
    have y1 : W.cell? ⟨B + 1, 1, none⟩ = some (.int .u8 (ra : Int)) := cell_row W _ 1 _ _ hXW
    have y2 : W.cell? ⟨B + 1, 2, none⟩ = some (.int .u8 (rb : Int)) := cell_row W _ 2 _ _ hXW
    have y3 : W.cell? ⟨B + 1, 3, none⟩ = some (.int .u8 (rc : Int)) := cell_row W _ 3 _ _ hXW
    have y4 : W.cell? ⟨B + 1, 4, none⟩ = some (.int .i32 (0)) := cell_row W _ 4 _ _ hXW
    clear hW hE hG hdo hen x0 x1 x2 x3 x4 xf
    go_wp2_with fail
    refine HEN.out.mono ?_
    rintro e w2 ⟨v, rfl, rfl, hb2⟩
    have hX2 := (hb2.block _ hlW).trans hXW
    have hR2 := (hb2.block B (by omega)).trans hRW
    have hb02 := hbW.trans (hb2.mono (by omega))
    have r0 : w2.cell? ⟨B, 0, none⟩ = some (.int .u8 0) := cell_row w2 _ 0 _ _ hR2
    have r1 : w2.cell? ⟨B, 1, none⟩ = some (.int .u8 0) := cell_row w2 _ 1 _ _ hR2
    have r2 : w2.cell? ⟨B, 2, none⟩ = some (.int .u8 0) := cell_row w2 _ 2 _ _ hR2
    have r3 : w2.cell? ⟨B, 3, none⟩ = some (.int .u8 0) := cell_row w2 _ 3 _ _ hR2
    have r4 : w2.cell? ⟨B, 4, none⟩ = some (.int .i32 0) := cell_row w2 _ 4 _ _ hR2
    have x0 : w2.cell? ⟨B + 1, 0, none⟩ = some (.int .u8 (op : Int)) := cell_row w2 _ 0 _ _ hX2
    have x1 : w2.cell? ⟨B + 1, 1, none⟩ = some (.int .u8 (ra : Int)) := cell_row w2 _ 1 _ _ hX2
    have x2 : w2.cell? ⟨B + 1, 2, none⟩ = some (.int .u8 (rb : Int)) := cell_row w2 _ 2 _ _ hX2
    have x3 : w2.cell? ⟨B + 1, 3, none⟩ = some (.int .u8 (rc : Int)) := cell_row w2 _ 3 _ _ hX2
    have x4 : w2.cell? ⟨B + 1, 4, none⟩ = some (.int .i32 (0)) := cell_row w2 _ 4 _ _ hX2
    have rf : ∀ i, w2.frozen? ⟨B, i, none⟩ = false := fun i => frozen_of w2 _ i _ _ hR2
    clear hX2 hR2 hRW hXW y0 y1 y2 y3 y4
    by_cases hgd : E = 0 ∧ G = x
    · obtain ⟨rfl, rfl⟩ := hgd
      have hq : ((G : Int) != (G : Int)) = false := by simp
      have hno : Pl.decOk G = true := by rw [HW.out.2.2]; simp
      have HN := Lib.hid hno
      clear hno
      go_wp2_with fail
      refine bodyPost_ret (v := .tuple #[.agg #[.int .u8 (op : Int), .int .u8 (ra : Int), .int .u8 (rb : Int), .int .u8 (rc : Int), .int .i32 (0)], .bool true]) (by simp [results, Tryz.results47, go_sem, r0, r1, r2, r3, r4]) rfl ?_
      refine ⟨_, rfl, by unfold decV; rw [HN.out, hD.out]; rfl, ?_⟩
      rw [HR.out.2.2.2]
      exact ((((hb02.setCell (Nat.le_refl _) _).setCell (Nat.le_refl _) _).setCell (Nat.le_refl _) _).setCell (Nat.le_refl _) _).setCell (Nat.le_refl _) _
    · have hno : Pl.decOk x = false := by rw [HW.out.2.2]; exact decide_eq_false hgd
      have HN := Lib.hid hno
      clear hno
      by_cases hE0 : E = 0
      · have hGx : ((G : Int) != (x : Int)) = true := by rw [bne_iff_ne]; intro e; exact hgd ⟨hE0, by omega⟩
        subst hE0
        clear hgd
        go_wp2_with fail
        refine bodyPost_ret (v := .tuple #[.agg #[.int .u8 0, .int .u8 0, .int .u8 0, .int .u8 0, .int .i32 0], .bool false]) (by simp [results, Tryz.results47, go_sem, r0, r1, r2, r3, r4]) rfl ?_
        refine ⟨_, rfl, by unfold decV; rw [HN.out]; rfl, ?_⟩
        rw [HR.out.2.2.2]
        exact ((((hb02.setCell (Nat.le_refl _) _).setCell (Nat.le_refl _) _).setCell (Nat.le_refl _) _).setCell (Nat.le_refl _) _).setCell (Nat.le_refl _) _
      · have hEe : ((E : Int) != 0) = true := by rw [bne_iff_ne]; omega
        clear hgd
        go_wp2_with fail
        refine bodyPost_ret (v := .tuple #[.agg #[.int .u8 0, .int .u8 0, .int .u8 0, .int .u8 0, .int .i32 0], .bool false]) (by simp [results, Tryz.results47, go_sem, r0, r1, r2, r3, r4]) rfl ?_
        refine ⟨_, rfl, by unfold decV; rw [HN.out]; rfl, ?_⟩
        rw [HR.out.2.2.2]
        exact ((((hb02.setCell (Nat.le_refl _) _).setCell (Nat.le_refl _) _).setCell (Nat.le_refl _) _).setCell (Nat.le_refl _) _).setCell (Nat.le_refl _) _
  have hk1 : ¬ k = 1 := fun e => h1 (HK.out.2.2.2.1.2 e)
  have hf1 : ((f : Int) == 1) = false := by rw [beq_eq_false_iff_ne]; omega
  clear h1
  by_cases h2 : lo ≤ 32767
  · have h2i : ¬ (32767 : Int) < (lo : Int) := by omega
    go_upto_region 7 with (fail)
    have hd : Pl.decX x = ⟨op, ra, rb, 0, (lo : Int)⟩ := by rw [HK.out.2.2.1, if_neg hk1, if_neg hk1, HK.out.2.2.2.2.1 h2]; cases u <;> rfl
    have hD := Lib.hid hd
    clear hd
    obtain ⟨W, hW⟩ : ∃ W : World, (w0.setCell ⟨B + 1, 4, none⟩ (.int .i32 (lo : Int))) = W := ⟨_, rfl⟩
    have hXW : W.heap[B + 1]? = some (.cells #[.int .u8 (op : Int), .int .u8 (ra : Int), .int .u8 (rb : Int), .int .u8 (0), .int .i32 ((lo : Int))] 33 (0, 0)) := by
      rw [← hW]; exact set_at _ _ 4 _ _ _ HR.out.2.1
    have hRW : W.heap[B]? = some (.cells #[.int .u8 0, .int .u8 0, .int .u8 0, .int .u8 0, .int .i32 0] 33 (0, 0)) := by
      rw [← hW]; exact ((Below.heap_setCell _ _ _ _ (by simp)).trans (HR.out.1))
    have hbW : Below B w W := by rw [← hW]; exact ((HR.out.2.2.1).setCell (Nat.le_succ _) _)
    rw [hW]
    have hlW : B + 1 < W.heap.size := blk_lt hXW
    have hok : Pl.InsOk ⟨op, ra, rb, 0, (lo : Int)⟩ := ⟨by simp only; omega, by simp only; omega, by simp only; omega, by simp only; omega, by simp only; omega, by simp only; omega⟩
    have hen := renc_any ⟨op, ra, rb, 0, (lo : Int)⟩ W hok
    unfold encV insV at hen
    simp only at hen
    obtain ⟨E, hE⟩ : ∃ E, Pl.encE ⟨op, ra, rb, 0, (lo : Int)⟩ = E := ⟨_, rfl⟩
    obtain ⟨G, hG⟩ : ∃ G, Pl.encW ⟨op, ra, rb, 0, (lo : Int)⟩ = G := ⟨_, rfl⟩
    rw [hE, hG] at hen
    have hdo : Pl.decOk x = decide (E = 0 ∧ G = x) := by
      unfold Pl.decOk; rw [hD.out, hE, ← hG]; unfold Pl.encW; rw [hE]
      by_cases h0 : E = 0
      · simp [h0]
      · simp [h0]
    have HW := Lib.hid (And.intro hE (And.intro hG hdo))
    have HEN := Lib.hid hen
    have y0 : W.cell? ⟨B + 1, 0, none⟩ = some (.int .u8 (op : Int)) := cell_row W _ 0 _ _ hXW
    have y1 : W.cell? ⟨B + 1, 1, none⟩ = some (.int .u8 (ra : Int)) := cell_row W _ 1 _ _ hXW
    have y2 : W.cell? ⟨B + 1, 2, none⟩ = some (.int .u8 (rb : Int)) := cell_row W _ 2 _ _ hXW
    have y3 : W.cell? ⟨B + 1, 3, none⟩ = some (.int .u8 (0)) := cell_row W _ 3 _ _ hXW
    have y4 : W.cell? ⟨B + 1, 4, none⟩ = some (.int .i32 ((lo : Int))) := cell_row W _ 4 _ _ hXW
    clear hW hE hG hdo hen x0 x1 x2 x3 x4 xf
    go_wp2_with fail
    refine HEN.out.mono ?_
    rintro e w2 ⟨v, rfl, rfl, hb2⟩
    have hX2 := (hb2.block _ hlW).trans hXW
    have hR2 := (hb2.block B (by omega)).trans hRW
    have hb02 := hbW.trans (hb2.mono (by omega))
    have r0 : w2.cell? ⟨B, 0, none⟩ = some (.int .u8 0) := cell_row w2 _ 0 _ _ hR2
    have r1 : w2.cell? ⟨B, 1, none⟩ = some (.int .u8 0) := cell_row w2 _ 1 _ _ hR2
    have r2 : w2.cell? ⟨B, 2, none⟩ = some (.int .u8 0) := cell_row w2 _ 2 _ _ hR2
    have r3 : w2.cell? ⟨B, 3, none⟩ = some (.int .u8 0) := cell_row w2 _ 3 _ _ hR2
    have r4 : w2.cell? ⟨B, 4, none⟩ = some (.int .i32 0) := cell_row w2 _ 4 _ _ hR2
    have x0 : w2.cell? ⟨B + 1, 0, none⟩ = some (.int .u8 (op : Int)) := cell_row w2 _ 0 _ _ hX2
    have x1 : w2.cell? ⟨B + 1, 1, none⟩ = some (.int .u8 (ra : Int)) := cell_row w2 _ 1 _ _ hX2
    have x2 : w2.cell? ⟨B + 1, 2, none⟩ = some (.int .u8 (rb : Int)) := cell_row w2 _ 2 _ _ hX2
    have x3 : w2.cell? ⟨B + 1, 3, none⟩ = some (.int .u8 (0)) := cell_row w2 _ 3 _ _ hX2
    have x4 : w2.cell? ⟨B + 1, 4, none⟩ = some (.int .i32 ((lo : Int))) := cell_row w2 _ 4 _ _ hX2
    have rf : ∀ i, w2.frozen? ⟨B, i, none⟩ = false := fun i => frozen_of w2 _ i _ _ hR2
    clear hX2 hR2 hRW hXW y0 y1 y2 y3 y4
    by_cases hgd : E = 0 ∧ G = x
    · obtain ⟨rfl, rfl⟩ := hgd
      have hq : ((G : Int) != (G : Int)) = false := by simp
      have hno : Pl.decOk G = true := by rw [HW.out.2.2]; simp
      have HN := Lib.hid hno
      clear hno
      go_wp2_with fail
      refine bodyPost_ret (v := .tuple #[.agg #[.int .u8 (op : Int), .int .u8 (ra : Int), .int .u8 (rb : Int), .int .u8 (0), .int .i32 ((lo : Int))], .bool true]) (by simp [results, Tryz.results47, go_sem, r0, r1, r2, r3, r4]) rfl ?_
      refine ⟨_, rfl, by unfold decV; rw [HN.out, hD.out]; rfl, ?_⟩
      rw [HR.out.2.2.2]
      exact ((((hb02.setCell (Nat.le_refl _) _).setCell (Nat.le_refl _) _).setCell (Nat.le_refl _) _).setCell (Nat.le_refl _) _).setCell (Nat.le_refl _) _
    · have hno : Pl.decOk x = false := by rw [HW.out.2.2]; exact decide_eq_false hgd
      have HN := Lib.hid hno
      clear hno
      by_cases hE0 : E = 0
      · have hGx : ((G : Int) != (x : Int)) = true := by rw [bne_iff_ne]; intro e; exact hgd ⟨hE0, by omega⟩
        subst hE0
        clear hgd
        go_wp2_with fail
        refine bodyPost_ret (v := .tuple #[.agg #[.int .u8 0, .int .u8 0, .int .u8 0, .int .u8 0, .int .i32 0], .bool false]) (by simp [results, Tryz.results47, go_sem, r0, r1, r2, r3, r4]) rfl ?_
        refine ⟨_, rfl, by unfold decV; rw [HN.out]; rfl, ?_⟩
        rw [HR.out.2.2.2]
        exact ((((hb02.setCell (Nat.le_refl _) _).setCell (Nat.le_refl _) _).setCell (Nat.le_refl _) _).setCell (Nat.le_refl _) _).setCell (Nat.le_refl _) _
      · have hEe : ((E : Int) != 0) = true := by rw [bne_iff_ne]; omega
        clear hgd
        go_wp2_with fail
        refine bodyPost_ret (v := .tuple #[.agg #[.int .u8 0, .int .u8 0, .int .u8 0, .int .u8 0, .int .i32 0], .bool false]) (by simp [results, Tryz.results47, go_sem, r0, r1, r2, r3, r4]) rfl ?_
        refine ⟨_, rfl, by unfold decV; rw [HN.out]; rfl, ?_⟩
        rw [HR.out.2.2.2]
        exact ((((hb02.setCell (Nat.le_refl _) _).setCell (Nat.le_refl _) _).setCell (Nat.le_refl _) _).setCell (Nat.le_refl _) _).setCell (Nat.le_refl _) _
  have h2i : (32767 : Int) < (lo : Int) := by omega
  cases u with
  | true =>
    go_wp2_with fail
    refine (HK.out.2.1 _).mono ?_
    rintro e w1 ⟨rfl, rfl⟩
    go_upto_region 7 with (fail)
    have hd : Pl.decX x = ⟨op, ra, rb, 0, (lo : Int)⟩ := by rw [HK.out.2.2.1, if_neg hk1, if_neg hk1]; rfl
    have hD := Lib.hid hd
    clear hd
    obtain ⟨W, hW⟩ : ∃ W : World, (w0.setCell ⟨B + 1, 4, none⟩ (.int .i32 (lo : Int))) = W := ⟨_, rfl⟩
    have hXW : W.heap[B + 1]? = some (.cells #[.int .u8 (op : Int), .int .u8 (ra : Int), .int .u8 (rb : Int), .int .u8 (0), .int .i32 ((lo : Int))] 33 (0, 0)) := by
      rw [← hW]; exact set_at _ _ 4 _ _ _ HR.out.2.1
    have hRW : W.heap[B]? = some (.cells #[.int .u8 0, .int .u8 0, .int .u8 0, .int .u8 0, .int .i32 0] 33 (0, 0)) := by
      rw [← hW]; exact ((Below.heap_setCell _ _ _ _ (by simp)).trans (HR.out.1))
    have hbW : Below B w W := by rw [← hW]; exact ((HR.out.2.2.1).setCell (Nat.le_succ _) _)
    rw [hW]
    have hlW : B + 1 < W.heap.size := blk_lt hXW
    have hok : Pl.InsOk ⟨op, ra, rb, 0, (lo : Int)⟩ := ⟨by simp only; omega, by simp only; omega, by simp only; omega, by simp only; omega, by simp only; omega, by simp only; omega⟩
    have hen := renc_any ⟨op, ra, rb, 0, (lo : Int)⟩ W hok
    unfold encV insV at hen
    simp only at hen
    obtain ⟨E, hE⟩ : ∃ E, Pl.encE ⟨op, ra, rb, 0, (lo : Int)⟩ = E := ⟨_, rfl⟩
    obtain ⟨G, hG⟩ : ∃ G, Pl.encW ⟨op, ra, rb, 0, (lo : Int)⟩ = G := ⟨_, rfl⟩
    rw [hE, hG] at hen
    have hdo : Pl.decOk x = decide (E = 0 ∧ G = x) := by
      unfold Pl.decOk; rw [hD.out, hE, ← hG]; unfold Pl.encW; rw [hE]
      by_cases h0 : E = 0
      · simp [h0]
      · simp [h0]
    have HW := Lib.hid (And.intro hE (And.intro hG hdo))
    have HEN := Lib.hid hen
    have y0 : W.cell? ⟨B + 1, 0, none⟩ = some (.int .u8 (op : Int)) := cell_row W _ 0 _ _ hXW
    have y1 : W.cell? ⟨B + 1, 1, none⟩ = some (.int .u8 (ra : Int)) := cell_row W _ 1 _ _ hXW
    have y2 : W.cell? ⟨B + 1, 2, none⟩ = some (.int .u8 (rb : Int)) := cell_row W _ 2 _ _ hXW
    have y3 : W.cell? ⟨B + 1, 3, none⟩ = some (.int .u8 (0)) := cell_row W _ 3 _ _ hXW
    have y4 : W.cell? ⟨B + 1, 4, none⟩ = some (.int .i32 ((lo : Int))) := cell_row W _ 4 _ _ hXW
    clear hW hE hG hdo hen x0 x1 x2 x3 x4 xf
    go_wp2_with fail
    refine HEN.out.mono ?_
    rintro e w2 ⟨v, rfl, rfl, hb2⟩
    have hX2 := (hb2.block _ hlW).trans hXW
    have hR2 := (hb2.block B (by omega)).trans hRW
    have hb02 := hbW.trans (hb2.mono (by omega))
    have r0 : w2.cell? ⟨B, 0, none⟩ = some (.int .u8 0) := cell_row w2 _ 0 _ _ hR2
    have r1 : w2.cell? ⟨B, 1, none⟩ = some (.int .u8 0) := cell_row w2 _ 1 _ _ hR2
    have r2 : w2.cell? ⟨B, 2, none⟩ = some (.int .u8 0) := cell_row w2 _ 2 _ _ hR2
    have r3 : w2.cell? ⟨B, 3, none⟩ = some (.int .u8 0) := cell_row w2 _ 3 _ _ hR2
    have r4 : w2.cell? ⟨B, 4, none⟩ = some (.int .i32 0) := cell_row w2 _ 4 _ _ hR2
    have x0 : w2.cell? ⟨B + 1, 0, none⟩ = some (.int .u8 (op : Int)) := cell_row w2 _ 0 _ _ hX2
    have x1 : w2.cell? ⟨B + 1, 1, none⟩ = some (.int .u8 (ra : Int)) := cell_row w2 _ 1 _ _ hX2
    have x2 : w2.cell? ⟨B + 1, 2, none⟩ = some (.int .u8 (rb : Int)) := cell_row w2 _ 2 _ _ hX2
    have x3 : w2.cell? ⟨B + 1, 3, none⟩ = some (.int .u8 (0)) := cell_row w2 _ 3 _ _ hX2
    have x4 : w2.cell? ⟨B + 1, 4, none⟩ = some (.int .i32 ((lo : Int))) := cell_row w2 _ 4 _ _ hX2
    have rf : ∀ i, w2.frozen? ⟨B, i, none⟩ = false := fun i => frozen_of w2 _ i _ _ hR2
    clear hX2 hR2 hRW hXW y0 y1 y2 y3 y4
    by_cases hgd : E = 0 ∧ G = x
    · obtain ⟨rfl, rfl⟩ := hgd
      have hq : ((G : Int) != (G : Int)) = false := by simp
      have hno : Pl.decOk G = true := by rw [HW.out.2.2]; simp
      have HN := Lib.hid hno
      clear hno
      go_wp2_with fail
      refine bodyPost_ret (v := .tuple #[.agg #[.int .u8 (op : Int), .int .u8 (ra : Int), .int .u8 (rb : Int), .int .u8 (0), .int .i32 ((lo : Int))], .bool true]) (by simp [results, Tryz.results47, go_sem, r0, r1, r2, r3, r4]) rfl ?_
      refine ⟨_, rfl, by unfold decV; rw [HN.out, hD.out]; rfl, ?_⟩
      rw [HR.out.2.2.2]
      exact ((((hb02.setCell (Nat.le_refl _) _).setCell (Nat.le_refl _) _).setCell (Nat.le_refl _) _).setCell (Nat.le_refl _) _).setCell (Nat.le_refl _) _
    · have hno : Pl.decOk x = false := by rw [HW.out.2.2]; exact decide_eq_false hgd
      have HN := Lib.hid hno
      clear hno
      by_cases hE0 : E = 0
      · have hGx : ((G : Int) != (x : Int)) = true := by rw [bne_iff_ne]; intro e; exact hgd ⟨hE0, by omega⟩
        subst hE0
        clear hgd
        go_wp2_with fail
        refine bodyPost_ret (v := .tuple #[.agg #[.int .u8 0, .int .u8 0, .int .u8 0, .int .u8 0, .int .i32 0], .bool false]) (by simp [results, Tryz.results47, go_sem, r0, r1, r2, r3, r4]) rfl ?_
        refine ⟨_, rfl, by unfold decV; rw [HN.out]; rfl, ?_⟩
        rw [HR.out.2.2.2]
        exact ((((hb02.setCell (Nat.le_refl _) _).setCell (Nat.le_refl _) _).setCell (Nat.le_refl _) _).setCell (Nat.le_refl _) _).setCell (Nat.le_refl _) _
      · have hEe : ((E : Int) != 0) = true := by rw [bne_iff_ne]; omega
        clear hgd
        go_wp2_with fail
        refine bodyPost_ret (v := .tuple #[.agg #[.int .u8 0, .int .u8 0, .int .u8 0, .int .u8 0, .int .i32 0], .bool false]) (by simp [results, Tryz.results47, go_sem, r0, r1, r2, r3, r4]) rfl ?_
        refine ⟨_, rfl, by unfold decV; rw [HN.out]; rfl, ?_⟩
        rw [HR.out.2.2.2]
        exact ((((hb02.setCell (Nat.le_refl _) _).setCell (Nat.le_refl _) _).setCell (Nat.le_refl _) _).setCell (Nat.le_refl _) _).setCell (Nat.le_refl _) _
  | false =>
    have hsb : IntKind.i32.wrap ((lo : Int) - 65536) = (lo : Int) - 65536 := IntWalk.i32_in _ (by omega)
    go_wp2_with fail
    refine (HK.out.2.1 _).mono ?_
    rintro e w1 ⟨rfl, rfl⟩
    go_upto_region 7 with (fail)
    have hd : Pl.decX x = ⟨op, ra, rb, 0, (lo : Int) - 65536⟩ := by rw [HK.out.2.2.1, if_neg hk1, if_neg hk1, HK.out.2.2.2.2.2 (by omega)]; rfl
    have hD := Lib.hid hd
    clear hd
    obtain ⟨W, hW⟩ : ∃ W : World, ((w0.setCell ⟨B + 1, 4, none⟩ (.int .i32 (lo : Int))).setCell ⟨B + 1, 4, none⟩ (.int .i32 ((lo : Int) - 65536))) = W := ⟨_, rfl⟩
    have hXW : W.heap[B + 1]? = some (.cells #[.int .u8 (op : Int), .int .u8 (ra : Int), .int .u8 (rb : Int), .int .u8 (0), .int .i32 ((lo : Int) - 65536)] 33 (0, 0)) := by
      rw [← hW]; exact set_at _ _ 4 _ _ _ (set_at _ _ 4 _ _ _ HR.out.2.1)
    have hRW : W.heap[B]? = some (.cells #[.int .u8 0, .int .u8 0, .int .u8 0, .int .u8 0, .int .i32 0] 33 (0, 0)) := by
      rw [← hW]; exact ((Below.heap_setCell _ _ _ _ (by simp)).trans (((Below.heap_setCell _ _ _ _ (by simp)).trans (HR.out.1))))
    have hbW : Below B w W := by rw [← hW]; exact (((HR.out.2.2.1).setCell (Nat.le_succ _) _).setCell (Nat.le_succ _) _)
    rw [hW]
    have hlW : B + 1 < W.heap.size := blk_lt hXW
    have hok : Pl.InsOk ⟨op, ra, rb, 0, (lo : Int) - 65536⟩ := ⟨by simp only; omega, by simp only; omega, by simp only; omega, by simp only; omega, by simp only; omega, by simp only; omega⟩
    have hen := renc_any ⟨op, ra, rb, 0, (lo : Int) - 65536⟩ W hok
    unfold encV insV at hen
    simp only at hen
    obtain ⟨E, hE⟩ : ∃ E, Pl.encE ⟨op, ra, rb, 0, (lo : Int) - 65536⟩ = E := ⟨_, rfl⟩
    obtain ⟨G, hG⟩ : ∃ G, Pl.encW ⟨op, ra, rb, 0, (lo : Int) - 65536⟩ = G := ⟨_, rfl⟩
    rw [hE, hG] at hen
    have hdo : Pl.decOk x = decide (E = 0 ∧ G = x) := by
      unfold Pl.decOk; rw [hD.out, hE, ← hG]; unfold Pl.encW; rw [hE]
      by_cases h0 : E = 0
      · simp [h0]
      · simp [h0]
    have HW := Lib.hid (And.intro hE (And.intro hG hdo))
    have HEN := Lib.hid hen
    have y0 : W.cell? ⟨B + 1, 0, none⟩ = some (.int .u8 (op : Int)) := cell_row W _ 0 _ _ hXW
    have y1 : W.cell? ⟨B + 1, 1, none⟩ = some (.int .u8 (ra : Int)) := cell_row W _ 1 _ _ hXW
    have y2 : W.cell? ⟨B + 1, 2, none⟩ = some (.int .u8 (rb : Int)) := cell_row W _ 2 _ _ hXW
    have y3 : W.cell? ⟨B + 1, 3, none⟩ = some (.int .u8 (0)) := cell_row W _ 3 _ _ hXW
    have y4 : W.cell? ⟨B + 1, 4, none⟩ = some (.int .i32 ((lo : Int) - 65536)) := cell_row W _ 4 _ _ hXW
    clear hW hE hG hdo hen x0 x1 x2 x3 x4 xf
    go_wp2_with fail
    refine HEN.out.mono ?_
    rintro e w2 ⟨v, rfl, rfl, hb2⟩
    have hX2 := (hb2.block _ hlW).trans hXW
    have hR2 := (hb2.block B (by omega)).trans hRW
    have hb02 := hbW.trans (hb2.mono (by omega))
    have r0 : w2.cell? ⟨B, 0, none⟩ = some (.int .u8 0) := cell_row w2 _ 0 _ _ hR2
    have r1 : w2.cell? ⟨B, 1, none⟩ = some (.int .u8 0) := cell_row w2 _ 1 _ _ hR2
    have r2 : w2.cell? ⟨B, 2, none⟩ = some (.int .u8 0) := cell_row w2 _ 2 _ _ hR2
    have r3 : w2.cell? ⟨B, 3, none⟩ = some (.int .u8 0) := cell_row w2 _ 3 _ _ hR2
    have r4 : w2.cell? ⟨B, 4, none⟩ = some (.int .i32 0) := cell_row w2 _ 4 _ _ hR2
    have x0 : w2.cell? ⟨B + 1, 0, none⟩ = some (.int .u8 (op : Int)) := cell_row w2 _ 0 _ _ hX2
    have x1 : w2.cell? ⟨B + 1, 1, none⟩ = some (.int .u8 (ra : Int)) := cell_row w2 _ 1 _ _ hX2
    have x2 : w2.cell? ⟨B + 1, 2, none⟩ = some (.int .u8 (rb : Int)) := cell_row w2 _ 2 _ _ hX2
    have x3 : w2.cell? ⟨B + 1, 3, none⟩ = some (.int .u8 (0)) := cell_row w2 _ 3 _ _ hX2
    have x4 : w2.cell? ⟨B + 1, 4, none⟩ = some (.int .i32 ((lo : Int) - 65536)) := cell_row w2 _ 4 _ _ hX2
    have rf : ∀ i, w2.frozen? ⟨B, i, none⟩ = false := fun i => frozen_of w2 _ i _ _ hR2
    clear hX2 hR2 hRW hXW y0 y1 y2 y3 y4
    by_cases hgd : E = 0 ∧ G = x
    · obtain ⟨rfl, rfl⟩ := hgd
      have hq : ((G : Int) != (G : Int)) = false := by simp
      have hno : Pl.decOk G = true := by rw [HW.out.2.2]; simp
      have HN := Lib.hid hno
      clear hno
      go_wp2_with fail
      refine bodyPost_ret (v := .tuple #[.agg #[.int .u8 (op : Int), .int .u8 (ra : Int), .int .u8 (rb : Int), .int .u8 (0), .int .i32 ((lo : Int) - 65536)], .bool true]) (by simp [results, Tryz.results47, go_sem, r0, r1, r2, r3, r4]) rfl ?_
      refine ⟨_, rfl, by unfold decV; rw [HN.out, hD.out]; rfl, ?_⟩
      rw [HR.out.2.2.2]
      exact ((((hb02.setCell (Nat.le_refl _) _).setCell (Nat.le_refl _) _).setCell (Nat.le_refl _) _).setCell (Nat.le_refl _) _).setCell (Nat.le_refl _) _
    · have hno : Pl.decOk x = false := by rw [HW.out.2.2]; exact decide_eq_false hgd
      have HN := Lib.hid hno
      clear hno
      by_cases hE0 : E = 0
      · have hGx : ((G : Int) != (x : Int)) = true := by rw [bne_iff_ne]; intro e; exact hgd ⟨hE0, by omega⟩
        subst hE0
        clear hgd
        go_wp2_with fail
        refine bodyPost_ret (v := .tuple #[.agg #[.int .u8 0, .int .u8 0, .int .u8 0, .int .u8 0, .int .i32 0], .bool false]) (by simp [results, Tryz.results47, go_sem, r0, r1, r2, r3, r4]) rfl ?_
        refine ⟨_, rfl, by unfold decV; rw [HN.out]; rfl, ?_⟩
        rw [HR.out.2.2.2]
        exact ((((hb02.setCell (Nat.le_refl _) _).setCell (Nat.le_refl _) _).setCell (Nat.le_refl _) _).setCell (Nat.le_refl _) _).setCell (Nat.le_refl _) _
      · have hEe : ((E : Int) != 0) = true := by rw [bne_iff_ne]; omega
        clear hgd
        go_wp2_with fail
        refine bodyPost_ret (v := .tuple #[.agg #[.int .u8 0, .int .u8 0, .int .u8 0, .int .u8 0, .int .i32 0], .bool false]) (by simp [results, Tryz.results47, go_sem, r0, r1, r2, r3, r4]) rfl ?_
        refine ⟨_, rfl, by unfold decV; rw [HN.out]; rfl, ?_⟩
        rw [HR.out.2.2.2]
        exact ((((hb02.setCell (Nat.le_refl _) _).setCell (Nat.le_refl _) _).setCell (Nat.le_refl _) _).setCell (Nat.le_refl _) _).setCell (Nat.le_refl _) _
end Go.Proofs.YtmmnkoeajdeldaaGreatDoor
