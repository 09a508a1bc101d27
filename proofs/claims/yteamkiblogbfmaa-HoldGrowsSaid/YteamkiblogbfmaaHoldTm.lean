/- Two roots laid into two boxes, in whatever order the boxes are made: the facts that all ways share. -/
import Derived.Test.YteamkiblogbfmaaHoldBx
namespace Go.Proofs.Yteamkiblogbfmaa
open Go.RowKit
set_option linter.unusedVariables false
set_option linter.unusedSimpArgs false
/-- A root's box, as a region holds it. -/
structure HeldL (B : Nat) (L : List Value) (W : World) : Prop where
  r : W.rangeAt B 0 L
structure Held3 (B b3 b4 : Nat) (L L1 L2 : List Value) (s1 s2 : Value) (W : World) : Prop where
  a : W.rangeAt B 0 L
  b : W.rangeAt b3 0 L1
  c : W.rangeAt b4 0 L2
  x : W.cell? ⟨b3, 2, none⟩ = some s1
  y : W.cell? ⟨b4, 2, none⟩ = some s2
theorem sel_mem {b : Bool} {l : List (Pl.Rf × Bool)} {x : Pl.Rf} (h : x ∈ sel b l) : (x, b) ∈ l := by
  unfold sel at h
  obtain ⟨y, hy, rfl⟩ := List.mem_map.1 h
  obtain ⟨h1, h2⟩ := List.mem_filter.1 hy
  have : y.2 = b := by simpa using h2
  rw [← this]; exact h1
theorem sel_prs {b : Bool} {R : Pl.Rt} {x : Pl.Rf} (h : x ∈ sel b (prs R)) : x ∈ R.l ∧ keepF R.p R.l R.now x = !b := by
  have h1 := sel_mem h
  unfold prs at h1
  obtain ⟨y, hy, he⟩ := List.mem_map.1 h1
  injection he with e1 e2
  subst e1
  exact ⟨hy, by rw [← e2]; simp⟩
theorem RtOk.less {R : Pl.Rt} (hok : RtOk R) (l' : List Pl.Rf) (h1 : l'.length ≤ R.l.length) (h2 : ∀ x ∈ l', x ∈ R.l) : RtOk { R with l := l' } :=
  ⟨Nat.le_trans (Nat.mul_le_mul_right _ h1) hok.l, fun x hx => hok.fit x (h2 x hx), hok.now, hok.pk, hok.pl, hok.ch, hok.key⟩
theorem RtOk.sel {R : Pl.Rt} (hok : RtOk R) (b : Bool) : RtOk { R with l := sel b (prs R) } :=
  hok.less _ (by have := sel_len b (prs R); rw [prs_len] at this; exact this) (fun x hx => (sel_prs hx).1)
structure TmI (w : World) (R : Pl.Rt) (s p c : Value) (L : List Value) (R1 : Pl.Rt) (x1 : Option (Value × Value × Value × List Value)) (x2 : Option Value) (b3 b4 : Option Nat) (W : World) : Prop where
  ar : RtAt w R s p c
  bx : RBox W w.heap.size R s p c L
  bel : Below w.heap.size w W
  r1 : ∀ q, x1 = some q → CpAt R1 w.heap.size q.1 q.2.1 q.2.2.1 q.2.2.2 W
  r2 : ∀ q, x2 = some q → W.ownsRow w.heap.size 38 5 q R1.l.length (rfCs R1.l)
  z3 : ∀ b, b3 = some b → W.heap[b]? = some (.cells rtZ.toArray 28 (0, 0)) ∧ w.heap.size < b
  z4 : ∀ b, b4 = some b → W.heap[b]? = some (.cells rtZ.toArray 28 (0, 0)) ∧ w.heap.size < b
  ne : ∀ b b', b3 = some b → b4 = some b' → b ≠ b'
section
variable {w : World} {R : Pl.Rt} {s p c : Value} {L : List Value} {R1 : Pl.Rt} {x1 : Option (Value × Value × Value × List Value)} {x2 : Option Value} {b3 b4 : Option Nat} {W W' : World}
theorem TmI.below (h : TmI w R s p c L R1 x1 x2 b3 b4 W) (hb : Below W.heap.size W W') : TmI w R s p c L R1 x1 x2 b3 b4 W' :=
  ⟨h.ar, h.bx.below hb, h.bel.trans (hb.mono h.bel.size), fun q e => (h.r1 q e).below hb, fun q e => own_below (h.r2 q e) hb,
    fun b e => ⟨(hb.block _ (blk_lt (h.z3 b e).1)).trans (h.z3 b e).1, (h.z3 b e).2⟩, fun b e => ⟨(hb.block _ (blk_lt (h.z4 b e).1)).trans (h.z4 b e).1, (h.z4 b e).2⟩, h.ne⟩
theorem TmI.rt (h : TmI w R s p c L R1 x1 x2 b3 b4 W) : RtAt W R s p c := h.bx.rt
theorem TmI.call1 {s1 p1 c1 : Value} {sv1 : List Value} (h : TmI w R s p c L R1 none x2 b3 b4 W) (hb : Below W.heap.size W W') (hr : CpAt R1 W.heap.size s1 p1 c1 sv1 W') : TmI w R s p c L R1 (some (s1, p1, c1, sv1)) x2 b3 b4 W' :=
  have h' := h.below hb
  ⟨h'.ar, h'.bx, h'.bel, fun q e => by cases e; exact hr.weak h.bel.size, h'.r2, h'.z3, h'.z4, h'.ne⟩
theorem TmI.call2 {s2 : Value} (h : TmI w R s p c L R1 x1 none b3 b4 W) (hb : Below W.heap.size W W') (hr : W'.ownsRow W.heap.size 38 5 s2 R1.l.length (rfCs R1.l)) : TmI w R s p c L R1 x1 (some s2) b3 b4 W' :=
  have h' := h.below hb
  ⟨h'.ar, h'.bx, h'.bel, h'.r1, fun q e => by cases e; exact own_weak hr h.bel.size, h'.z3, h'.z4, h'.ne⟩
theorem TmI.alloc3 (h : TmI w R s p c L R1 x1 x2 none b4 W) : TmI w R s p c L R1 x1 x2 (some W.heap.size) b4 (W.alloc (.cells #[.int .i64 0, .int .i64 0, .slice none 0 0, .slice none 0 0, .int .i64 0, .int .i64 0, .int .i64 0, .int .i64 0, .slice none 0 0] 28)) :=
  have h' := h.below ((Below.refl _ _).alloc (Nat.le_refl _) (.cells #[.int .i64 0, .int .i64 0, .slice none 0 0, .slice none 0 0, .int .i64 0, .int .i64 0, .int .i64 0, .int .i64 0, .slice none 0 0] 28))
  ⟨h'.ar, h'.bx, h'.bel, h'.r1, h'.r2, fun b e => by cases e; exact ⟨heap_alloc_new W _, h.bx.lt⟩, h'.z4, fun b b' e e' => by
    cases e
    have := blk_lt (h.z4 b' e').1
    omega⟩
theorem TmI.alloc4 (h : TmI w R s p c L R1 x1 x2 b3 none W) : TmI w R s p c L R1 x1 x2 b3 (some W.heap.size) (W.alloc (.cells #[.int .i64 0, .int .i64 0, .slice none 0 0, .slice none 0 0, .int .i64 0, .int .i64 0, .int .i64 0, .int .i64 0, .slice none 0 0] 28)) :=
  have h' := h.below ((Below.refl _ _).alloc (Nat.le_refl _) (.cells #[.int .i64 0, .int .i64 0, .slice none 0 0, .slice none 0 0, .int .i64 0, .int .i64 0, .int .i64 0, .int .i64 0, .slice none 0 0] 28))
  ⟨h'.ar, h'.bx, h'.bel, h'.r1, h'.r2, h'.z3, fun b e => by cases e; exact ⟨heap_alloc_new W _, h.bx.lt⟩, fun b b' e e' => by
    cases e'
    have := blk_lt (h.z3 b e).1
    omega⟩
/-- What the region leaves: two boxes. -/
def TmF (w : World) (R : Pl.Rt) (s p c : Value) (L : List Value) (R1 : Pl.Rt) (b3 b4 : Nat) (W : World) : Prop :=
  ∃ s1 p1 c1 s2 L1 L2, RBox W b3 R1 s1 p1 c1 L1 ∧ RBox W b4 R1 s2 p c L2 ∧ RBox W w.heap.size R s p c L ∧ Below w.heap.size w W
theorem rtL_one' {R : Pl.Rt} {s p c : Value} {W : World} (h : RtAt W R s p c) : (rtL R s p c).toArray.all (·.oneCell') = true := rtL_one rfl h
theorem rtL_info' (R : Pl.Rt) (s p c : Value) : (Try.prog.info? 28).map (·.size) = some (rtL R s p c).toArray.size := rtL_info rfl
theorem there_z {W : World} {b : Nat} (h : W.heap[b]? = some (.cells rtZ.toArray 28 (0, 0))) (R : Pl.Rt) (s p c : Value) : W.there b 0 (rtL R s p c).toArray.size := there_rowd (n := (rtL R s p c).toArray.size) h (Nat.le_refl _)
/-- The second root, as a whole. -/
theorem TmI.at2 {s2 : Value} (h : TmI w R s p c L R1 x1 (some s2) b3 b4 W) (hp : R1.pk = R.pk) (hc : R1.ch = R.ch) : RtAt W R1 s2 p c :=
  ⟨SlV.own (h.r2 _ rfl), by rw [hp]; exact h.ar.p.below h.bel, by rw [hc]; exact h.ar.c.below h.bel⟩
theorem there_zL {W : World} {b : Nat} (h : W.heap[b]? = some (.cells rtZ.toArray 28 (0, 0))) {R : Pl.Rt} {s p c : Value} {L : List Value} (hL : L = rtL R s p c) : W.there b 0 L.toArray.size := by subst hL; exact there_z h R s p c
theorem TmI.stores {s1 p1 c1 s2 : Value} {sv1 : List Value} {b b' : Nat} {L1 L2 : List Value} (h : TmI w R s p c L R1 (some (s1, p1, c1, sv1)) (some s2) (some b) (some b') W) (hL1 : L1 = rtL R1 s1 p1 c1) (hL2 : L2 = rtL R1 s2 p c) (hp : R1.pk = R.pk) (hc : R1.ch = R.ch) :
    TmF w R s p c L R1 b b' ((W.setCells b 0 L1).setCells b' 0 L2) ∧ (W.setCells b 0 L1).rangeAt w.heap.size 0 L ∧ (W.setCells b 0 L1).heap[b']? = some (.cells rtZ.toArray 28 (0, 0)) ∧ ((W.setCells b 0 L1).setCells b' 0 L2).rangeAt w.heap.size 0 L := by
  subst hL1 hL2
  obtain ⟨hz3, hl3⟩ := h.z3 b rfl
  obtain ⟨hz4, hl4⟩ := h.z4 b' rfl
  have hne := h.ne b b' rfl rfl
  obtain ⟨V, hV⟩ : ∃ V, V = W.setCells b 0 (rtL R1 s1 p1 c1) := ⟨_, rfl⟩
  obtain ⟨U, hU⟩ : ∃ U, U = V.setCells b' 0 (rtL R1 s2 p c) := ⟨_, rfl⟩
  rw [← hV, ← hU]
  have hk3 : ∀ k, k < W.heap.size → k ≠ b → V.heap[k]? = W.heap[k]? := fun k hk hn => by rw [hV]; exact World.heap_setCells_other W _ _ _ hk hn
  have hs3 : W.heap.size ≤ V.heap.size := by rw [hV]; exact (show Below 0 W _ from Lib.below_setCells_w (Nat.zero_le _) _ _ _).size
  have hk4 : ∀ k, k < V.heap.size → k ≠ b' → U.heap[k]? = V.heap[k]? := fun k hk hn => by rw [hU]; exact World.heap_setCells_other V _ _ _ hk hn
  have hb3 : Below w.heap.size W V := by rw [hV]; exact Lib.below_setCells_w (Nat.le_of_lt hl3) _ _ _
  have hb4 : Below w.heap.size V U := by rw [hU]; exact Lib.below_setCells_w (Nat.le_of_lt hl4) _ _ _
  have e3 : V.heap[b]? = some (.cells (rtL R1 s1 p1 c1).toArray 28 (0, 0)) := by rw [hV]; exact heap_setCells_all hz3 rfl
  have e4 : V.heap[b']? = some (.cells rtZ.toArray 28 (0, 0)) := (hk3 b' (blk_lt hz4) (Ne.symm hne)).trans hz4
  have ex : V.heap[w.heap.size]? = some (.cells L.toArray 28 (0, 0)) := (hk3 _ h.bx.lt (by omega)).trans h.bx.at_
  have f4 : U.heap[b']? = some (.cells (rtL R1 s2 p c).toArray 28 (0, 0)) := by rw [hU]; exact heap_setCells_all e4 rfl
  have f3 : U.heap[b]? = some (.cells (rtL R1 s1 p1 c1).toArray 28 (0, 0)) := (hk4 b (blk_lt e3) hne).trans e3
  have fx : U.heap[w.heap.size]? = some (.cells L.toArray 28 (0, 0)) := (hk4 _ (blk_lt ex) (by omega)).trans ex
  have bel := (h.bel.trans hb3).trans hb4
  have q1 := ((h.r1 _ rfl).boxed hz3 hk3).boxed e4 hk4
  have q2 := own_but' (own_but' (h.r2 _ rfl) hk3 (ne_root (h.r2 _ rfl) (by decide) hz3)) hk4 (ne_root (own_but' (h.r2 _ rfl) hk3 (ne_root (h.r2 _ rfl) (by decide) hz3)) (by decide) e4)
  exact ⟨⟨s1, p1, c1, s2, _, _, ⟨f3, rfl, q1.rt⟩, ⟨f4, rfl, ⟨SlV.own q2, by rw [hp]; exact h.ar.p.below bel, by rw [hc]; exact h.ar.c.below bel⟩⟩, ⟨fx, h.bx.l, h.ar.below bel⟩, bel⟩, range_rowd ex, e4, range_rowd fx⟩
end
end Go.Proofs.Yteamkiblogbfmaa
