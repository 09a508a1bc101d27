/- What HoldGrows keeps between two of its holds. -/
import Derived.Test.YteamkiblogbfmaaHoldPl4
namespace Go.Proofs.Yteamkiblogbfmaa
open Go.RowKit
set_option linter.unusedVariables false
set_option linter.unusedSimpArgs false
theorem setR_at {R : Pl.Rt} {m : List UInt8} {n til : Int} (h : Pl.setE R m n til = 0) : (Pl.setR R m n til).now = R.now ∧ (Pl.setR R m n til).l.length = R.l.length ∧ ∀ j, (R.l.getD j default).til ≤ ((Pl.setR R m n til).l.getD j default).til := by
  obtain ⟨h1, h2, h3⟩ := setE_0 h
  rw [setR_yes h]
  refine ⟨rfl, hold1_len _ _ _, fun j => ?_⟩
  simp only [List.getD_eq_getElem?_getD]
  rw [hold1_getE]
  split
  · next e =>
    subst e
    rw [List.getElem?_eq_getElem h1]
    rw [List.getD_eq_getElem?_getD, List.getElem?_eq_getElem h1] at h3
    exact h3
  · exact Int.le_refl _
/-- The root that has been set so far, in its variable's box; r itself in its own. -/
structure GX (w : World) (B : Nat) (R : Pl.Rt) (s p c : Value) (L : List Value) (X : Pl.Rt) (s' p' c' : Value) (Lx : List Value) (W : World) : Prop where
  x : RBox W B X s' p' c' Lx
  sv : RtAt w X s' p' c' ∨ ∃ sv, CpAt X w.heap.size s' p' c' sv W
  hb : Below w.heap.size w W
  lt : w.heap.size < B
  r : RBox W w.heap.size R s p c L
  r0 : RtAt w R s p c
  ok : RtOk X
  len : X.l.length = R.l.length
  now : X.now = R.now
section
variable {w : World} {B : Nat} {R : Pl.Rt} {s p c : Value} {L : List Value} {X : Pl.Rt} {s' p' c' : Value} {Lx : List Value} {W W' : World}
theorem GX.below (h : GX w B R s p c L X s' p' c' Lx W) (hb : Below W.heap.size W W') : GX w B R s p c L X s' p' c' Lx W' :=
  ⟨h.x.below hb, h.sv.imp id (fun ⟨sv, g⟩ => ⟨sv, g.below hb⟩), h.hb.trans (hb.mono h.hb.size), h.lt, h.r.below hb, h.r0, h.ok, h.len, h.now⟩
theorem GX.drewN (h : GX w B R s p c L X s' p' c' Lx W) (k : Nat) : GX w B R s p c L X s' p' c' Lx (W.drewN k) := h.below (below_drewN (Below.refl _ _) k)
/-- A root that was set is laid into the variable. -/
theorem GX.store (h : GX w B R s p c L X s' p' c' Lx W) {Y : Pl.Rt} {sy py cy : Value} {sv Ly : List Value} (hc : CpAt Y w.heap.size sy py cy sv W) (hL : Ly = rtL Y sy py cy) (hok : RtOk Y) (hlen : Y.l.length = R.l.length) (hnow : Y.now = R.now) (hW : W.setCells B 0 Ly = W') :
    GX w B R s p c L Y sy py cy Ly W' := by
  have hbut : ∀ k, k < W.heap.size → k ≠ B → W'.heap[k]? = W.heap[k]? := fun k hk hne => by rw [← hW]; exact World.heap_setCells_other W _ _ _ hk hne
  have hc' := hc.boxed h.x.at_ hbut
  have hb : Below w.heap.size w W' := by rw [← hW]; exact h.hb.trans (Lib.below_setCells_w (Nat.le_of_lt h.lt) _ _ _)
  refine ⟨⟨?_, hL, hc'.rt⟩, .inr ⟨sv, hc'⟩, hb, h.lt, ⟨(hbut _ h.r.lt (by have := h.lt; omega)).trans h.r.at_, h.r.l, h.r0.below hb⟩, h.r0, hok, hlen, hnow⟩
  rw [← hW]
  exact heap_setCells_all h.x.at_ (by rw [hL, h.x.l]; rfl)
/-- Its time is set. -/
theorem GX.fin (h : GX w B R s p c L X s' p' c' Lx W) (t : Int) (hW : W.setCell ⟨B, 1, none⟩ (.int .i64 t) = W') :
    RBox W' B { X with now := t } s' p' c' (rtL { X with now := t } s' p' c') ∧ Below w.heap.size w W' := by
  have hbut : ∀ k, k < W.heap.size → k ≠ B → W'.heap[k]? = W.heap[k]? := fun k hk hne => by rw [← hW]; exact set_but W B 1 _ k hk hne
  have hb : Below w.heap.size w W' := by rw [← hW]; exact h.hb.setCell (Nat.le_of_lt h.lt) _
  refine ⟨⟨?_, rfl, ?_⟩, hb⟩
  · have h1 := h.x.at_
    rw [h.x.l] at h1
    have h2 := set_at W B 1 _ (.int .i64 t) _ h1
    rw [hW] at h2
    exact h2
  · have hx : RtAt W' X s' p' c' := by
      rcases h.sv with g | ⟨sv, g⟩
      · exact g.below hb
      · exact (g.boxed h.x.at_ hbut).rt
    exact ⟨hx.s, hx.p, hx.c⟩
theorem RtOk.now_at (h : RtOk X) {t : Int} (ht : -9223372036854775808 ≤ t ∧ t ≤ 9223372036854775807) : RtOk { X with now := t } := ⟨h.l, h.fit, ht, h.pk, h.pl, h.ch, h.key⟩
/-- The root that was set just now, in its box. -/
structure GY (B0 : Nat) (By : Nat) (Y : Pl.Rt) (sy py cy : Value) (sv Ly : List Value) (W : World) : Prop where
  at_ : W.heap[By]? = some (.cells Ly.toArray 28 (0, 0))
  l : Ly = rtL Y sy py cy
  cp : CpAt Y B0 sy py cy sv W
theorem GY.box {B0 By : Nat} {Y : Pl.Rt} {sy py cy : Value} {sv Ly : List Value} (h : GY B0 By Y sy py cy sv Ly W) : RBox W By Y sy py cy Ly := ⟨h.at_, h.l, h.cp.rt⟩
theorem GY.below {B0 By : Nat} {Y : Pl.Rt} {sy py cy : Value} {sv Ly : List Value} (h : GY B0 By Y sy py cy sv Ly W) (hb : Below W.heap.size W W') : GY B0 By Y sy py cy sv Ly W' := ⟨(hb.block _ (blk_lt h.at_)).trans h.at_, h.l, h.cp.below hb⟩
/-- The box is made behind the call. -/
theorem gy_after {V V1 V3 : World} {B0 : Nat} {Y : Pl.Rt} {sy py cy : Value} {sv Ly : List Value} (hb : Below V.heap.size V V1) (hB : B0 ≤ V.heap.size) (hc : CpAt Y V.heap.size sy py cy sv V1) (hL : Ly = rtL Y sy py cy)
    (hW : (V1.alloc (.cells #[.int .i64 0, .int .i64 0, .slice none 0 0, .slice none 0 0, .int .i64 0, .int .i64 0, .int .i64 0, .int .i64 0, .slice none 0 0] 28)).setCells V1.heap.size 0 Ly = V3) : GY B0 V1.heap.size Y sy py cy sv Ly V3 ∧ Below V.heap.size V V3 := by
  obtain ⟨h1, h2⟩ := rbox_new hL hc.rt hW
  exact ⟨⟨h1.at_, hL, (hc.weak hB).below h2⟩, hb.trans (h2.mono hb.size)⟩
/-- The box is made ahead of the call. -/
theorem gy_ahead {V V1 V2 V3 : World} {B0 : Nat} {Y : Pl.Rt} {sy py cy : Value} {sv Ly : List Value} (hA : V.alloc (.cells #[.int .i64 0, .int .i64 0, .slice none 0 0, .slice none 0 0, .int .i64 0, .int .i64 0, .int .i64 0, .int .i64 0, .slice none 0 0] 28) = V1) (hB : B0 ≤ V.heap.size)
    (hb : Below V1.heap.size V1 V2) (hc : CpAt Y V1.heap.size sy py cy sv V2) (hL : Ly = rtL Y sy py cy) (hW : V2.setCells V.heap.size 0 Ly = V3) : GY B0 V.heap.size Y sy py cy sv Ly V3 ∧ Below V.heap.size V V3 := by
  have h1 : V1.heap[V.heap.size]? = some (.cells rtZ.toArray 28 (0, 0)) := by rw [← hA]; exact heap_alloc_new V _
  have hb1 : Below V.heap.size V V1 := by rw [← hA]; exact (Below.refl _ _).alloc (Nat.le_refl _) _
  have h2 := (hb.block _ (blk_lt h1)).trans h1
  have hbut : ∀ k, k < V2.heap.size → k ≠ V.heap.size → V3.heap[k]? = V2.heap[k]? := fun k hk hne => by rw [← hW]; exact World.heap_setCells_other V2 _ _ _ hk hne
  refine ⟨⟨?_, hL, (hc.weak (by have := hb1.size; omega)).boxed h2 hbut⟩, ?_⟩
  · rw [← hW]
    exact heap_setCells_all h2 (by rw [hL]; rfl)
  · rw [← hW]
    exact (hb1.trans (hb.mono hb1.size)).trans (Lib.below_setCells_w (Nat.le_refl _) _ _ _)
end
end Go.Proofs.Yteamkiblogbfmaa
