/- The walk of copies.Root: a root's lists made anew. -/
import Derived.Test.YteamkiblogbfmaaHoldW1
import Derived.Test.YteamkiblogbfmaaDayW4
import Derived.LoopTactic
import Derived.Deep.Cut
import Derived.Deep.Upon
namespace Go.Proofs.Yteamkiblogbfmaa
open Go.RowKit
set_option linter.unusedVariables false
set_option linter.unusedSimpArgs false
/-- What copies.Root returns: all lists are rows of its own. -/
structure CpAt (R : Pl.Rt) (B : Nat) (s p c : Value) (sv : List Value) (w : World) : Prop where
  s : w.ownsRow B 38 5 s R.l.length (rfCs R.l)
  len : sv.length = R.pk.length
  p : w.ownsRow B 59 2 p R.pk.length (pkCs R.pk sv)
  pl : ∀ (q : Nat) (x : Pl.Pkd) (s : Value), R.pk[q]? = some x → sv[q]? = some s → w.ownsRow B 61 3 s x.pl.length (plCs x.pl)
  c : w.ownsRow B 56 34 c R.ch.length (chCs R.ch)
def CopyOut (R : Pl.Rt) (B : Nat) (v : Value) (w' : World) : Prop := ∃ s p c sv, v = rtV R s p c ∧ CpAt R B s p c sv w'
/-- A root's box. -/
def rtCs (r0 r1 r2 r3 r4 r5 : Int) (s p c : Value) : Array Value := #[.int .i64 r0, .int .i64 r1, s, p, .int .i64 r2, .int .i64 r3, .int .i64 r4, .int .i64 r5, c]
theorem PkV.own {w : World} {v : Value} {P : List Pl.Pkd} {sv : List Value} {B : Nat} (hl : sv.length = P.length) (h : w.ownsRow B 59 2 v P.length (pkCs P sv)) (hs : ∀ (i : Nat) (x : Pl.Pkd) (s : Value), P[i]? = some x → sv[i]? = some s → SlV w 3 s x.pl.length (plCs x.pl)) : PkV w v P :=
  ⟨sv, hl, SlV.own h, hs⟩
theorem own_keep {w w' : World} {base : Nat} {e : TypeId} {k n : Nat} {v : Value} {xs : List Value} (h : w.ownsRow base e k v n xs) {P0 : Nat} (hlt : ∀ g, v.ownBlock = some g → g < P0) (hb : Below P0 w w') : w'.ownsRow base e k v n xs := by
  rcases h.2 with ⟨rfl, h0⟩ | ⟨g, cap, cur, rfl, h1, h2, h3⟩
  · exact ⟨h.1, .inl ⟨rfl, h0⟩⟩
  · exact ⟨h.1, .inr ⟨g, cap, cur, rfl, h1, (hb.block g (hlt g rfl)).trans h2, h3⟩⟩
theorem own_other {w : World} {base : Nat} {e : TypeId} {k n : Nat} {v : Value} {xs : List Value} (h : w.ownsRow base e k v n xs) {B : Nat} (hB : B < base) (i : Nat) (u : Value) : (w.setCell ⟨B, i, none⟩ u).ownsRow base e k v n xs := by
  rcases h.2 with ⟨rfl, h0⟩ | ⟨g, cap, cur, rfl, h1, h2, h3⟩
  · exact ⟨h.1, .inl ⟨rfl, h0⟩⟩
  · exact ⟨h.1, .inr ⟨g, cap, cur, rfl, h1, (Below.heap_setCell _ _ _ g (by simp; omega)).trans h2, h3⟩⟩
theorem own_weak {w : World} {base base' : Nat} {e : TypeId} {k n : Nat} {v : Value} {xs : List Value} (h : w.ownsRow base e k v n xs) (hB : base' ≤ base) : w.ownsRow base' e k v n xs := by
  rcases h.2 with ⟨rfl, h0⟩ | ⟨g, cap, cur, rfl, h1, h2, h3⟩
  · exact ⟨h.1, .inl ⟨rfl, h0⟩⟩
  · exact ⟨h.1, .inr ⟨g, cap, cur, rfl, Nat.le_trans hB h1, h2, h3⟩⟩
theorem SlV.lt {w : World} {k n : Nat} {s : Value} {xs : List Value} (h : SlV w k s n xs) {g : Nat} (hg : s.ownBlock = some g) (hn : 0 < n) : g < w.heap.size := by
  obtain ⟨A, c, rfl, hr, -⟩ := h
  obtain ⟨b, off, rfl, hb, -⟩ := hr.2 hn
  simp [Value.ownBlock] at hg
  omega
theorem SlV.set {w : World} {k n : Nat} {s : Value} {xs : List Value} (h : SlV w k s n xs) {g : Nat} (hg : s.ownBlock = some g → n = 0) (i : Nat) (u : Value) : SlV (w.setCell ⟨g, i, none⟩ u) k s n xs := by
  obtain ⟨A, c, rfl, hr, h2⟩ := h
  refine ⟨A, c, rfl, ?_, h2⟩
  by_cases hn : n = 0
  · subst hn
    exact ⟨hr.1, fun h => absurd h (by omega)⟩
  · refine hr.set ?_ i u
    intro e
    apply hn; apply hg
    cases A with
    | none => cases e
    | some a => simpa [Value.ownBlock] using e
theorem nat_ne {w : World} {base : Nat} {e : TypeId} {k n m : Nat} {v : Value} {xs : List Value} (h : w.ownsRow base e k v n xs) {g : Nat} (hg : g < base) : v.ownBlock = some g → m = 0 := by
  intro e
  have := (h.lt g e).1
  omega
theorem info_root : (Try.prog.info? 28).map (·.size) = some 9 := by kernel_rfl
theorem own_but {w w' : World} {base : Nat} {e : TypeId} {k n : Nat} {v : Value} {xs : List Value} (h : w.ownsRow base e k v n xs) {g : Nat} (hk : ∀ i, i < w.heap.size → i ≠ g → w'.heap[i]? = w.heap[i]?) (hg : g < base) : w'.ownsRow base e k v n xs := by
  rcases h.2 with ⟨rfl, h0⟩ | ⟨q, cap, cur, rfl, h1, h2, h3⟩
  · exact ⟨h.1, .inl ⟨rfl, h0⟩⟩
  · exact ⟨h.1, .inr ⟨q, cap, cur, rfl, h1, (hk q (blk_lt h2) (by omega)).trans h2, h3⟩⟩
theorem SlV.but {w w' : World} {k n : Nat} {s : Value} {xs : List Value} (h : SlV w k s n xs) {g : Nat} (hk : ∀ i, i < w.heap.size → i ≠ g → w'.heap[i]? = w.heap[i]?) (hs : w.heap.size ≤ w'.heap.size) (hg : s.ownBlock = some g → n = 0) : SlV w' k s n xs := by
  obtain ⟨A, c, rfl, hr, h2⟩ := h
  refine ⟨A, c, rfl, ⟨hr.1, fun hn => ?_⟩, h2⟩
  obtain ⟨b, off, rfl, hb, hc⟩ := hr.2 hn
  have hne : b ≠ g := fun e => by have := hg (by simp [Value.ownBlock, e]); omega
  exact ⟨b, off, rfl, by omega, fun j hj => (World.cell?_of_block (hk b hb hne)).trans (hc j hj)⟩
theorem own_but' {w w' : World} {base : Nat} {e : TypeId} {k n : Nat} {v : Value} {xs : List Value} (h : w.ownsRow base e k v n xs) {g : Nat} (hk : ∀ i, i < w.heap.size → i ≠ g → w'.heap[i]? = w.heap[i]?) (hg : v.ownBlock ≠ some g) : w'.ownsRow base e k v n xs := by
  rcases h.2 with ⟨rfl, h0⟩ | ⟨q, cap, cur, rfl, h1, h2, h3⟩
  · exact ⟨h.1, .inl ⟨rfl, h0⟩⟩
  · exact ⟨h.1, .inr ⟨q, cap, cur, rfl, h1, (hk q (blk_lt h2) (fun e => hg (by simp [Value.ownBlock, e]))).trans h2, h3⟩⟩
/-- A root's packs, in a row of the call's own, whose places lie nowhere between B and P0. -/
structure PkIn (P : List Pl.Pkd) (B P0 n : Nat) (v : Value) (sv : List Value) (w : World) : Prop where
  len : sv.length = P.length
  own : w.ownsRow P0 59 2 v n (pkCs P sv)
  at_ : ∀ (q : Nat) (x : Pl.Pkd) (s : Value), P[q]? = some x → sv[q]? = some s → SlV w 3 s x.pl.length (plCs x.pl) ∧ ∀ b, B ≤ b → b < P0 → s.ownBlock = some b → x.pl.length = 0
theorem PkIn.below {P : List Pl.Pkd} {B P0 n : Nat} {v : Value} {sv : List Value} {w w' : World} (h : PkIn P B P0 n v sv w) (hb : Below w.heap.size w w') : PkIn P B P0 n v sv w' :=
  ⟨h.len, own_below h.own hb, fun q x s hx hs => ⟨(h.at_ q x s hx hs).1.below hb, (h.at_ q x s hx hs).2⟩⟩
theorem PkIn.but {P : List Pl.Pkd} {B P0 n : Nat} {v : Value} {sv : List Value} {w w' : World} (h : PkIn P B P0 n v sv w) {g : Nat} (hk : ∀ i, i < w.heap.size → i ≠ g → w'.heap[i]? = w.heap[i]?) (hs : w.heap.size ≤ w'.heap.size) (h1 : B ≤ g) (h2 : g < P0) : PkIn P B P0 n v sv w' :=
  ⟨h.len, own_but h.own hk h2, fun q x s hx hs' => ⟨(h.at_ q x s hx hs').1.but hk hs ((h.at_ q x s hx hs').2 g h1 h2), (h.at_ q x s hx hs').2⟩⟩
theorem PkIn.pk {P : List Pl.Pkd} {B P0 n : Nat} {v : Value} {sv : List Value} {w : World} (h : PkIn P B P0 n v sv w) (hn : n = P.length) : PkV w v P := by
  subst hn
  exact PkV.own h.len h.own (fun q x s hx hs => (h.at_ q x s hx hs).1)
theorem set_but (w : World) (g i : Nat) (u : Value) : ∀ k, k < w.heap.size → k ≠ g → (w.setCell ⟨g, i, none⟩ u).heap[k]? = w.heap[k]? := fun k _ hk => Below.heap_setCell _ _ _ k (by simpa using hk)
/-- Between two packs. -/
def CpR (P : List Pl.Pkd) (B P0 : Nat) (A : Option Addr) (n c : Nat) (w : World) (i : Value) (wr : World) : Prop :=
  ∃ (j : Nat) (sv : List Value), j ≤ n ∧ i = .int .i64 j ∧ PkIn P B P0 n (.slice A n c) sv wr ∧
    (∀ (q : Nat) (x : Pl.Pkd) (s : Value), P[q]? = some x → sv[q]? = some s → s.ownBlock = (Value.slice A n c).ownBlock → x.pl.length = 0) ∧ Below P0 w wr ∧
    ∀ (q : Nat) (x : Pl.Pkd) (s : Value), P[q]? = some x → sv[q]? = some s → q < j → wr.ownsRow P0 61 3 s x.pl.length (plCs x.pl) ∧ s.ownBlock ≠ (Value.slice A n c).ownBlock
set_option maxRecDepth 100000 in
set_option maxHeartbeats 4000000 in
theorem copy_any (R : Pl.Rt) (s p c : Value) (w : World) (hok : RtOk R) (h : RtAt w R s p c) : Calls Try.prog 23 #[rtV R s p c] w (RetB (CopyOut R w.heap.size) w) := by
  obtain ⟨r0, hr0⟩ : ∃ x, x = R.n := ⟨_, rfl⟩
  obtain ⟨r1, hr1⟩ : ∃ x, x = R.now := ⟨_, rfl⟩
  obtain ⟨r2, hr2⟩ : ∃ x, x = R.p.d := ⟨_, rfl⟩
  obtain ⟨r3, hr3⟩ : ∃ x, x = R.p.w := ⟨_, rfl⟩
  obtain ⟨r4, hr4⟩ : ∃ x, x = R.p.mo := ⟨_, rfl⟩
  obtain ⟨r5, hr5⟩ : ∃ x, x = R.p.y := ⟨_, rfl⟩
  have hV : ∀ s p c, rtV R s p c = .agg #[.int .i64 r0, .int .i64 r1, s, p, .int .i64 r2, .int .i64 r3, .int .i64 r4, .int .i64 r5, c] := by
    intro s p c; rw [hr0, hr1, hr2, hr3, hr4, hr5]; rfl
  rw [hV]
  clear hr0 hr1 hr2 hr3 hr4 hr5
  obtain ⟨hs, hp, hc⟩ := h
  have o1 := hs.one
  obtain ⟨A0, k0, rfl, hr0, hn0⟩ := hs
  obtain ⟨sv0, hsv0, ⟨A1, k1, rfl, hr1, hn1⟩, hpl⟩ := hp
  obtain ⟨A2, k2, rfl, hr2, hn2⟩ := hc
  obtain ⟨N0, hN0⟩ : ∃ N, N = R.l.length := ⟨_, rfl⟩
  obtain ⟨N1, hN1⟩ : ∃ N, N = R.pk.length := ⟨_, rfl⟩
  obtain ⟨N2, hN2⟩ : ∃ N, N = R.ch.length := ⟨_, rfl⟩
  have l0 := hok.l
  have l1 := hok.pk
  have l2 := hok.ch
  rw [← hN0] at hr0 l0 ⊢
  rw [← hN1] at hr1 l1 ⊢
  rw [← hN2] at hr2 l2 ⊢
  have HH := Lib.hid (And.intro hV (And.intro hr0 (And.intro hn0 (And.intro hr1 (And.intro hn1 (And.intro hr2 hn2))))))
  have HP := Lib.hid (And.intro hsv0 (And.intro hpl (And.intro hok (And.intro hN0 (And.intro hN1 hN2)))))
  clear hV hr0 hn0 hr1 hn1 hr2 hn2 hsv0 hpl hok hN0 hN1 hN2
  go_enter Try.func23, Try.ntmps23
  go_upto_region 1 with (fail)
  generalize hW : World.alloc (World.alloc w _) _ = W
  have hbW : Below w.heap.size w W := by rw [← hW]; exact ((Below.refl _ _).alloc (Nat.le_refl _) _).alloc (by simp) _
  have hx : W.heap[w.heap.size]? = some (.cells #[.int .i64 r0, .int .i64 r1, .slice A0 N0 k0, .slice A1 N1 k1, .int .i64 r2, .int .i64 r3, .int .i64 r4, .int .i64 r5, .slice A2 N2 k2] 28 (0, 0)) := by rw [← hW]; exact (Below.heap_alloc _ _ _ (by simp)).trans (heap_alloc_new w _)
  have hz : W.heap[w.heap.size + 1]? = some (.cells #[.int .i64 0, .int .i64 0, .slice none 0 0, .slice none 0 0, .int .i64 0, .int .i64 0, .int .i64 0, .int .i64 0, .slice none 0 0] 28 (0, 0)) := by rw [← hW]; exact heap_alloc_2 w _ _
  have hsz := blk_lt hz
  have x2 := cell_row W _ 2 _ _ hx
  simp at x2
  have HW := Lib.hid (And.intro hbW (And.intro hx hz)); clear hbW hx hz hW
  have hcl := clone_rf (.slice A0 N0 k0) N0 (rfCs R.l) W ⟨A0, k0, rfl, HH.out.2.1.below HW.out.1, HH.out.2.2.1⟩ (rfCs_one _) l0
  go_wp2_with fail
  refine hcl.mono ?_
  rintro e w1 ⟨v1, rfl, ho1, hb1⟩
  clear hcl
  obtain ⟨B0, c0, rfl⟩ := own_form' ho1
  have hx1 := (hb1.block _ (by omega)).trans HW.out.2.1
  have hz1 := (hb1.block _ hsz).trans HW.out.2.2
  have hsz1 := blk_lt hz1
  have x2 := cell_row w1 _ 2 _ _ hx1
  have f2 := frozen_of w1 _ 2 _ _ hx1
  simp at x2
  have H1 := Lib.hid (And.intro ho1 (And.intro hb1 (And.intro hx1 hz1))); clear ho1 hb1 hx1 hz1
  go_upto_region 2 with (fail)
  generalize hV1 : World.setCell w1 _ _ = V1
  have hxV := set_at w1 w.heap.size 2 _ (.slice B0 N0 c0) _ H1.out.2.2.1
  rw [hV1] at hxV
  simp only [List.setIfInBounds_toArray, List.set_cons_zero, List.set_cons_succ] at hxV
  have hbV : Below w.heap.size w V1 := by rw [← hV1]; exact (HW.out.1.trans (H1.out.2.1.mono HW.out.1.size)).setCell (Nat.le_refl _) _
  have hzV : V1.heap[w.heap.size + 1]? = some (.cells #[.int .i64 0, .int .i64 0, .slice none 0 0, .slice none 0 0, .int .i64 0, .int .i64 0, .int .i64 0, .int .i64 0, .slice none 0 0] 28 (0, 0)) := by rw [← hV1]; exact (Below.heap_setCell _ _ _ _ (by simp)).trans H1.out.2.2.2
  have hoV := own_other H1.out.1 (B := w.heap.size) (by omega) 2 (.slice B0 N0 c0)
  rw [hV1] at hoV
  have hoV := own_weak hoV (base' := w.heap.size + 2) (by omega)
  clear hV1 H1 x2 f2 hsz1 hsz HW
  have hsz := blk_lt hzV
  have x3 := cell_row V1 _ 3 _ _ hxV
  simp at x3
  have H1 := Lib.hid (And.intro hbV (And.intro hxV (And.intro hzV hoV))); clear hbV hxV hzV hoV
  have hcl := clone_pkd (.slice A1 N1 k1) N1 (pkCs R.pk sv0) V1 ⟨A1, k1, rfl, HH.out.2.2.2.1.below H1.out.1, HH.out.2.2.2.2.1⟩ (pkCs_one _ _ (PkV.one HP.out.1 HP.out.2.1)) l1
  go_wp2_with fail
  refine hcl.mono ?_
  rintro e w2 ⟨v2, rfl, ho2, hb2⟩
  clear hcl
  obtain ⟨B1, c1, rfl⟩ := own_form' ho2
  have hx2 := (hb2.block _ (by omega)).trans H1.out.2.1
  have hz2 := (hb2.block _ hsz).trans H1.out.2.2.1
  have hor2 := own_below H1.out.2.2.2 hb2
  have hsz2 := blk_lt hz2
  have x3 := cell_row w2 _ 3 _ _ hx2
  have f3 := frozen_of w2 _ 3 _ _ hx2
  simp at x3
  have H2 := Lib.hid (And.intro ho2 (And.intro hb2 (And.intro hx2 (And.intro hz2 hor2)))); clear ho2 hb2 hx2 hz2 hor2
  go_upto_region 3 with (fail)
  generalize hV2 : World.setCell w2 _ _ = V2
  have hxV := set_at w2 w.heap.size 3 _ (.slice B1 N1 c1) _ H2.out.2.2.1
  rw [hV2] at hxV
  simp only [List.setIfInBounds_toArray, List.set_cons_zero, List.set_cons_succ] at hxV
  have hbV : Below w.heap.size w V2 := by rw [← hV2]; exact (H1.out.1.trans (H2.out.2.1.mono H1.out.1.size)).setCell (Nat.le_refl _) _
  have hzV : V2.heap[w.heap.size + 1]? = some (.cells #[.int .i64 0, .int .i64 0, .slice none 0 0, .slice none 0 0, .int .i64 0, .int .i64 0, .int .i64 0, .int .i64 0, .slice none 0 0] 28 (0, 0)) := by rw [← hV2]; exact (Below.heap_setCell _ _ _ _ (by simp)).trans H2.out.2.2.2.1
  have hoV := own_other H2.out.2.2.2.2 (B := w.heap.size) (by omega) 3 (.slice B1 N1 c1)
  rw [hV2] at hoV
  have hpV := own_other H2.out.1 (B := w.heap.size) (by omega) 3 (.slice B1 N1 c1)
  rw [hV2] at hpV
  obtain ⟨P0, hP0⟩ : ∃ P, P = V1.heap.size := ⟨_, rfl⟩
  rw [← hP0] at hpV hsz
  have hoP : ∀ g, (Value.slice B0 N0 c0).ownBlock = some g → g < P0 := fun g hg => by rw [hP0]; exact (H1.out.2.2.2.lt g hg).2
  have hnat : ∀ (q : Nat) (x : Pl.Pkd) (s : Value), R.pk[q]? = some x → sv0[q]? = some s → ∀ b, w.heap.size ≤ b → s.ownBlock = some b → x.pl.length = 0 := fun q x s h1 h2 b hb he => by
    rcases Nat.eq_zero_or_pos x.pl.length with h0 | h0
    · exact h0
    · have := (HP.out.2.1 q x s h1 h2).lt he h0; omega
  have hpI : PkIn R.pk w.heap.size P0 N1 (.slice B1 N1 c1) sv0 V2 := ⟨HP.out.1, hpV, fun q x s h1 h2 => ⟨(HP.out.2.1 q x s h1 h2).below hbV, fun b hb _ he => hnat q x s h1 h2 b hb he⟩⟩
  have hsv : ∀ (q : Nat) (x : Pl.Pkd) (s : Value), R.pk[q]? = some x → sv0[q]? = some s → s.ownBlock = (Value.slice B1 N1 c1).ownBlock → x.pl.length = 0 := fun q x s h1 h2 he => by
    rcases Nat.eq_zero_or_pos x.pl.length with h0 | h0
    · exact h0
    · obtain ⟨A, c, rfl, hr, -⟩ := HP.out.2.1 q x s h1 h2
      obtain ⟨b, off, rfl, hb, -⟩ := hr.2 h0
      have h3 := (hpV.lt b he.symm).1
      omega
  have hP2 : P0 ≤ V2.heap.size := by rw [← hV2, hP0]; simp; exact H2.out.2.1.size
  clear hV2 H2 x3 f3 hsz2 H1 hP0
  have hszV := blk_lt hzV
  have x3 := cell_row V2 _ 3 _ _ hxV
  simp at x3
  have H2 := Lib.hid (And.intro hbV (And.intro hxV (And.intro hzV (And.intro hoV (And.intro hpI (And.intro hoP hsv)))))); clear hbV hxV hzV hoV hpV hpI hoP hsv hnat
  go_wp2_with fail
  go_loopw [15] (CpR R.pk w.heap.size P0 B1 N1 c1 V2) (fun i _ => N1 - (intOf i).toNat)
  case atStart => exact ⟨0, sv0, by omega, rfl, H2.out.2.2.2.2.1, H2.out.2.2.2.2.2.2, Below.refl _ _, fun q x s _ _ h => absurd h (by omega)⟩
  case round =>
    clear x3
    obtain ⟨j, sv, hj, rfl, hI, hsv, hb, hnew⟩ := hrel
    have hsl := hI.len
    have hown := hI.own
    have hx := (hb.block _ (by omega)).trans H2.out.2.1
    have hxl := blk_lt hx
    have x3 := cell_row wr _ 3 _ _ hx
    simp at x3
    by_cases hjn : j < N1
    · have j0 : (0 : Int) ≤ (j : Int) := by omega
      have j1 : (j : Int) < (N1 : Int) := by omega
      rcases hown.2 with ⟨-, h0⟩ | ⟨g, cap, cur, hA, hg1, hg2, -⟩
      · omega
      injection hA with hA _ hcap
      subst hA hcap
      have hjP : j < R.pk.length := by rw [← HP.out.2.2.2.2.1]; exact hjn
      obtain ⟨s, hs⟩ : ∃ s : Value, sv[j]? = some s := ⟨_, List.getElem?_eq_getElem (by omega)⟩
      obtain ⟨y, hy⟩ : ∃ y, R.pk[j]? = some y := ⟨_, List.getElem?_eq_getElem hjP⟩
      have hym : y ∈ R.pk := List.mem_of_getElem? hy
      have hsj := (hI.at_ j y s hy hs).1
      have hc1 : wr.cell? ⟨g, j * 2 + 1, none⟩ = some s := by rw [hown.cellAt _ (by omega), (pkCs_get R.pk sv hsl j hjP).2, hs]
      have hcl := fun W (hbW : Below wr.heap.size wr W) => clone_plc s y.pl.length (plCs y.pl) W (hsj.below hbW) (plCs_one _) (HP.out.2.2.1.pl y hym)
      have hgl := blk_lt hg2
      have HR := Lib.hid (And.intro hsl (And.intro hown (And.intro (And.intro hI (And.intro hsv hnew)) (And.intro hb (And.intro hx (And.intro hg2 (And.intro hs (And.intro hy hcl))))))))
      clear hsl hown hsv hnew hI hb hx hg2 hs hy hcl hsj
      go_wp2_with fail
      refine wp_region_held_drew (S := (fun w' => w'.cell? ⟨w.heap.size, 3, none⟩ = some (.slice (some ⟨g, 0, none⟩) N1 c1))) (by kernel_rfl) (by exact x3) (fun hHeld => ?_)
      refine wpAnyH_take (i := 0) (v := ?_) rfl (by kernel_rfl) (by kernel_rfl) (by kernel_rfl) (fun _ _ _ h => h) (Or.inl ⟨by kernel_rfl, ?_⟩) hHeld ?_
      rotate_left
      · (intro w' hSw; (try dsimp only at hSw); go_simp; try with_reducible rfl)
      simp only [Act.put, List.setIfInBounds_toArray, List.set_cons_zero, List.set_cons_succ, List.getElem_toArray, List.getElem_cons_succ, List.getElem_cons_zero]
      refine wpAnyH_take (i := 1) (v := ?_) rfl (by kernel_rfl) (by kernel_rfl) (by kernel_rfl) (fun _ _ _ h => h) (Or.inl ⟨by kernel_rfl, ?_⟩) hHeld ?_
      rotate_left
      · (intro w' hSw; (try dsimp only at hSw); go_simp; try with_reducible rfl)
      simp only [Act.put, List.setIfInBounds_toArray, List.set_cons_zero, List.set_cons_succ, List.getElem_toArray, List.getElem_cons_succ, List.getElem_cons_zero]
      refine wpAnyH_take (i := 2) (v := ?_) rfl (by kernel_rfl) (by kernel_rfl) (by kernel_rfl) (fun _ _ _ h => h) (Or.inl ⟨by kernel_rfl, ?_⟩) hHeld ?_
      rotate_left
      · (intro w' hSw; (try dsimp only at hSw); go_simp; try with_reducible rfl)
      simp only [Act.put, List.setIfInBounds_toArray, List.set_cons_zero, List.set_cons_succ, List.getElem_toArray, List.getElem_cons_succ, List.getElem_cons_zero]
      refine wpAnyH_take (i := 3) (v := ?_) rfl (by kernel_rfl) (by kernel_rfl) (by kernel_rfl) (fun _ _ _ h => h) (Or.inl ⟨by kernel_rfl, ?_⟩) hHeld ?_
      rotate_left
      · (intro w' hSw; (try dsimp only at hSw); go_simp; try with_reducible rfl)
      simp only [Act.put, List.setIfInBounds_toArray, List.set_cons_zero, List.set_cons_succ, List.getElem_toArray, List.getElem_cons_succ, List.getElem_cons_zero]
      refine wpAnyH_take (i := 4) (v := ?_) rfl (by kernel_rfl) (by kernel_rfl) (by kernel_rfl) (fun _ _ _ h => h) (Or.inl ⟨by kernel_rfl, ?_⟩) hHeld ?_
      rotate_left
      · (intro w' hSw; (try dsimp only at hSw); go_simp; try with_reducible rfl)
      simp only [Act.put, List.setIfInBounds_toArray, List.set_cons_zero, List.set_cons_succ, List.getElem_toArray, List.getElem_cons_succ, List.getElem_cons_zero]
      refine wpAnyH_take (i := 5) (v := ?_) rfl (by kernel_rfl) (by kernel_rfl) (by kernel_rfl) (fun _ _ _ h => h) (Or.inl ⟨by kernel_rfl, ?_⟩) hHeld ?_
      rotate_left
      · (intro w' hSw; (try dsimp only at hSw); go_simp; try with_reducible rfl)
      simp only [Act.put, List.setIfInBounds_toArray, List.set_cons_zero, List.set_cons_succ, List.getElem_toArray, List.getElem_cons_succ, List.getElem_cons_zero]
      refine wpAnyH_take (i := 6) (v := ?_) rfl (by kernel_rfl) (by kernel_rfl) (by kernel_rfl) (fun _ _ _ h => h) (Or.inl ⟨by kernel_rfl, ?_⟩) hHeld ?_
      rotate_left
      · (intro w' hSw; (try dsimp only at hSw); go_simp; try with_reducible rfl)
      simp only [Act.put, List.setIfInBounds_toArray, List.set_cons_zero, List.set_cons_succ, List.getElem_toArray, List.getElem_cons_succ, List.getElem_cons_zero]
      refine wpAnyH_take (i := 7) (v := ?_) rfl (by kernel_rfl) (by kernel_rfl) (by kernel_rfl) (fun _ _ _ h => h) (Or.inl ⟨by kernel_rfl, ?_⟩) hHeld ?_
      rotate_left
      · (intro w' hSw; (try dsimp only at hSw); go_simp; try with_reducible rfl)
      simp only [Act.put, List.setIfInBounds_toArray, List.set_cons_zero, List.set_cons_succ, List.getElem_toArray, List.getElem_cons_succ, List.getElem_cons_zero]
      refine wpAnyH_ready (rs := [8]) (by kernel_rfl) (by simp) (AllReadyH.cons rfl (fun K hK => ?_) AllReadyH.nil)
      go_simp
      refine hK.out _ _ (by exact x3) (fun hHeld => ?_)
      clear hK K
      (try simp only [Act.put, List.setIfInBounds_toArray, List.set_cons_zero, List.set_cons_succ, List.getElem_toArray, List.getElem_cons_succ, List.getElem_cons_zero])
      refine wpAnyH_ready (rs := [9]) (by kernel_rfl) (by simp) (AllReadyH.cons rfl (fun K hK => ?_) AllReadyH.nil)
      go_simp
      refine (HR.out.2.2.2.2.2.2.2.2 _ (Below.refl _ _).drew).mono ?_
      rintro e w3 ⟨v3, rfl, ho3, hb3⟩
      have hb3 : Below wr.heap.size wr w3 := (Below.refl _ wr).drew.trans hb3
      obtain ⟨B3, c3, rfl⟩ := own_form' ho3
      have x3' := (hb3.cell (p := ⟨w.heap.size, 3, none⟩) hxl).trans x3
      have y3' := (hb3.cell (p := ⟨g, j * 2 + 1, none⟩) hgl).trans hc1
      have hg3 := (hb3.block _ hgl).trans HR.out.2.2.2.2.2.1
      have hf3 := frozen_of w3 g (j * 2 + 1) _ _ hg3
      refine hK.out _ _ (by exact x3') (fun hHeld => ?_)
      clear hK K
      (try simp only [Act.put, List.setIfInBounds_toArray, List.set_cons_zero, List.set_cons_succ, List.getElem_toArray, List.getElem_cons_succ, List.getElem_cons_zero])
      refine wpAnyH_take (i := 10) (v := ?_) rfl (by kernel_rfl) (by kernel_rfl) (by kernel_rfl) (fun _ _ _ h => h) (Or.inl ⟨by kernel_rfl, ?_⟩) hHeld ?_
      rotate_left
      · (intro w' hSw; (try dsimp only at hSw); go_simp; try with_reducible rfl)
      simp only [Act.put, List.setIfInBounds_toArray, List.set_cons_zero, List.set_cons_succ, List.getElem_toArray, List.getElem_cons_succ, List.getElem_cons_zero]
      refine wpAnyH_take (i := 11) (v := ?_) rfl (by kernel_rfl) (by kernel_rfl) (by kernel_rfl) (fun _ _ _ h => h) (Or.inl ⟨by kernel_rfl, ?_⟩) hHeld ?_
      rotate_left
      · (intro w' hSw; (try dsimp only at hSw); go_simp; try with_reducible rfl)
      simp only [Act.put, List.setIfInBounds_toArray, List.set_cons_zero, List.set_cons_succ, List.getElem_toArray, List.getElem_cons_succ, List.getElem_cons_zero]
      refine wpAnyH_ready (rs := [12]) (by kernel_rfl) (by simp) (AllReadyH.cons rfl (fun K hK => ?_) AllReadyH.nil)
      go_simp
      have hst := ((own_below HR.out.2.1 hb3).stored (j * 2 + 1) (.slice B3 y.pl.length c3)).1
      rw [pkCs_set R.pk sv HR.out.1 j hjP] at hst
      generalize hW4 : World.setCell w3 _ _ = W4
      rw [hW4] at hst
      have hb4 : Below P0 wr W4 := by rw [← hW4]; exact (hb3.mono (Nat.le_trans hP2 HR.out.2.2.2.1.size)).setCell hg1 _
      have x4 : W4.cell? ⟨w.heap.size, 3, none⟩ = some (.slice (some ⟨g, 0, none⟩) N1 c1) := by rw [← hW4, World.cell?_setCell_other _ _ _ _ (by simp <;> omega)]; exact x3'
      have hbut : ∀ k, k < w3.heap.size → k ≠ g → W4.heap[k]? = w3.heap[k]? := by rw [← hW4]; exact set_but w3 g _ _
      have hsz4 : w3.heap.size ≤ W4.heap.size := by rw [← hW4]; simp
      have hs4 : ∀ (q : Nat) (x : Pl.Pkd) (u : Value), R.pk[q]? = some x → (sv.set j (.slice B3 y.pl.length c3))[q]? = some u → (SlV W4 3 u x.pl.length (plCs x.pl) ∧ ∀ b, w.heap.size ≤ b → b < P0 → u.ownBlock = some b → x.pl.length = 0) ∧ (u.ownBlock = (Value.slice (some ⟨g, 0, none⟩) N1 c1).ownBlock → x.pl.length = 0) := by
        intro q x u h1 h2
        rw [List.getElem?_set] at h2
        split at h2
        · next hjq =>
          subst hjq
          split at h2
          · injection h2 with h2
            subst h2
            rw [HR.out.2.2.2.2.2.2.2.1] at h1
            injection h1 with h1
            subst h1
            have hn := nat_ne ho3 (m := y.pl.length) (g := g) hgl
            exact ⟨⟨(SlV.own ho3).but hbut hsz4 hn, fun b _ hb => nat_ne ho3 (g := b) (Nat.lt_of_lt_of_le hb (Nat.le_trans hP2 HR.out.2.2.2.1.size))⟩, hn⟩
          · cases h2
        · obtain ⟨h3, h5⟩ := HR.out.2.2.1.1.at_ q x u h1 h2
          have h4 := HR.out.2.2.1.2.1 q x u h1 h2
          exact ⟨⟨(h3.below hb3).but hbut hsz4 h4, h5⟩, h4⟩
      have hI4 : PkIn R.pk w.heap.size P0 N1 (.slice (some ⟨g, 0, none⟩) N1 c1) (sv.set j (.slice B3 y.pl.length c3)) W4 := ⟨by simpa using HR.out.1, hst, fun q x s h1 h2 => (hs4 q x s h1 h2).1⟩
      have hs5 := fun q x s h1 h2 => (hs4 q x s h1 h2).2
      have hnew : ∀ (q : Nat) (x : Pl.Pkd) (u : Value), R.pk[q]? = some x → (sv.set j (.slice B3 y.pl.length c3))[q]? = some u → q < j + 1 → W4.ownsRow P0 61 3 u x.pl.length (plCs x.pl) ∧ u.ownBlock ≠ (Value.slice (some ⟨g, 0, none⟩) N1 c1).ownBlock := by
        intro q x u h1 h2 hq
        rw [List.getElem?_set] at h2
        split at h2
        · next hjq =>
          subst hjq
          split at h2
          · injection h2 with h2
            subst h2
            rw [HR.out.2.2.2.2.2.2.2.1] at h1
            injection h1 with h1
            subst h1
            have hne : (Value.slice B3 y.pl.length c3).ownBlock ≠ some g := fun e => by
              have h9 : wr.heap.size ≤ g := (ho3.lt g e).1
              omega
            exact ⟨own_weak (own_but' ho3 hbut hne) (Nat.le_trans hP2 HR.out.2.2.2.1.size), hne⟩
          · cases h2
        · obtain ⟨h3, h4⟩ := HR.out.2.2.1.2.2 q x u h1 h2 (by omega)
          exact ⟨own_but' (own_below h3 hb3) hbut h4, h4⟩
      clear hW4 hbut hsz4
      refine hK.out _ _ (by exact x4) (fun hHeld => ?_)
      clear hK K
      (try simp only [Act.put, List.setIfInBounds_toArray, List.set_cons_zero, List.set_cons_succ, List.getElem_toArray, List.getElem_cons_succ, List.getElem_cons_zero])
      refine wpAnyH_done (by kernel_rfl) ?_ _
      have HE := Lib.hid (And.intro hI4 (And.intro hb4 (And.intro hs5 hnew))); clear hnew hst hI4 hs5 hb4 hs4 x3 hc1 hf3 y3' x3' hg3
      go_wp2_with fail
      exact ⟨⟨j + 1, _, by omega, rfl, HE.out.1, HE.out.2.2.1, HR.out.2.2.2.1.trans HE.out.2.1, HE.out.2.2.2⟩, by simp [intOf]; omega⟩
    · obtain rfl : j = N1 := by omega
      have hz := (hb.block _ hsz).trans H2.out.2.2.1
      have hor := own_keep H2.out.2.2.2.1 H2.out.2.2.2.2.2.1 hb
      have hzl := blk_lt hz
      have hbw := H2.out.1.trans (hb.mono (by omega))
      have hpk := And.intro hI (fun q x s hq hs => (hnew q x s hq hs (by have := (List.getElem?_eq_some_iff.1 hq).1; rw [← HP.out.2.2.2.2.1] at this; exact this)).1)
      have HR := Lib.hid (And.intro hz (And.intro hor (And.intro hpk (And.intro hx hbw)))); clear hz hor hpk hx hbw hown hsv hb hI hnew
      go_upto_region 8 with (fail)
      have x8 := cell_row wr _ 8 _ _ HR.out.2.2.2.1
      simp at x8
      have hcl := clone_cha (.slice A2 N2 k2) N2 (chCs R.ch) wr ⟨A2, k2, rfl, HH.out.2.2.2.2.2.1.below HR.out.2.2.2.2, HH.out.2.2.2.2.2.2⟩ (chCs_one _) l2
      go_wp2_with fail
      refine hcl.mono ?_
      rintro e w5 ⟨v5, rfl, ho5, hb5⟩
      clear hcl x3
      obtain ⟨B2, c2, rfl⟩ := own_form' ho5
      have hx5 := (hb5.block _ hxl).trans HR.out.2.2.2.1
      have hz5 := (hb5.block _ hzl).trans HR.out.1
      have hor5 := own_below HR.out.2.1 hb5
      have hpk5 := And.intro (HR.out.2.2.1.1.below hb5) (fun q x s hq hs => own_below (HR.out.2.2.1.2 q x s hq hs) hb5)
      have x8 := cell_row w5 _ 8 _ _ hx5
      have f8 := frozen_of w5 _ 8 _ _ hx5
      simp at x8
      have H5 := Lib.hid (And.intro hx5 (And.intro hz5 (And.intro hor5 (And.intro hpk5 (And.intro ho5 hb5))))); clear hx5 hz5 hor5 hpk5 ho5 hb5
      go_upto_region 9 with (fail)
      generalize hV6 : World.setCell w5 _ _ = V6
      have hxV := set_at w5 w.heap.size 8 _ (.slice B2 N2 c2) _ H5.out.1
      rw [hV6] at hxV
      simp only [List.setIfInBounds_toArray, List.set_cons_zero, List.set_cons_succ] at hxV
      have hbV : Below w.heap.size w V6 := by rw [← hV6]; exact (HR.out.2.2.2.2.trans (H5.out.2.2.2.2.2.mono (by omega))).setCell (Nat.le_refl _) _
      have hzV := (Below.heap_setCell w5 ⟨w.heap.size, 8, none⟩ (.slice B2 N2 c2) (w.heap.size + 1) (by simp)).trans H5.out.2.1
      rw [hV6] at hzV
      have hoV := own_other H5.out.2.2.1 (B := w.heap.size) (by omega) 8 (.slice B2 N2 c2)
      rw [hV6] at hoV
      have hcV := own_other H5.out.2.2.2.2.1 (B := w.heap.size) (by omega) 8 (.slice B2 N2 c2)
      rw [hV6] at hcV
      have hpV : R.pk.length = R.pk.length ∧ V6.ownsRow P0 59 2 (.slice B1 j c1) j (pkCs R.pk sv) ∧ ∀ (q : Nat) (x : Pl.Pkd) (s : Value), R.pk[q]? = some x → sv[q]? = some s → V6.ownsRow P0 61 3 s x.pl.length (plCs x.pl) := by
        rw [← hV6]
        exact ⟨rfl, own_but H5.out.2.2.2.1.1.own (set_but w5 _ _ _) (by omega), fun q x s hq hs => own_but (H5.out.2.2.2.1.2 q x s hq hs) (set_but w5 _ _ _) (by omega)⟩
      have hw1 : w.heap.size + 1 < w5.heap.size := blk_lt H5.out.2.1
      clear hV6 H5 x8 f8 HR
      have hxl6 := blk_lt hxV
      have hzl6 := blk_lt hzV
      obtain ⟨L, hL⟩ : ∃ L : List Value, L = [.int .i64 r0, .int .i64 r1, .slice B0 N0 c0, .slice B1 j c1, .int .i64 r2, .int .i64 r3, .int .i64 r4, .int .i64 r5, .slice B2 N2 c2] := ⟨_, rfl⟩
      have hxV : V6.heap[w.heap.size]? = some (.cells L.toArray 28 (0, 0)) := by rw [hL]; exact hxV
      have hL2 : L.length = 9 := by rw [hL]; rfl
      have hL3 : ∀ v ∈ L, v.oneCell' = true := by
        rw [hL]; intro v hv
        simp only [List.mem_cons, List.not_mem_nil, or_false] at hv
        rcases hv with rfl | rfl | rfl | rfl | rfl | rfl | rfl | rfl | rfl <;> rfl
      have hTL : V6.there (w.heap.size + 1) 0 L.length := there_rowd hzV (by rw [hL2]; exact Nat.le_refl _)
      have hTW : V6.there (w.heap.size + 1) 0 L.toArray.size := by rw [List.size_toArray]; exact hTL
      have hif : (Try.prog.info? 28).map (·.size) = some L.length := by rw [hL2]; exact info_root
      have hifa : (Try.prog.info? 28).map (·.size) = some L.toArray.size := by rw [List.size_toArray]; exact hif
      have H6 := Lib.hid (And.intro hbV (And.intro hoV (And.intro hcV (And.intro hpV (And.intro hL (all_oneCell_toArray hL3)))))); clear hbV hzV hoV hcV hpV hL hL2 hL3
      go_wp2_with (first | (with_reducible refine wpList_load_mid rfl 28 _ rfl w.heap.size 0 rfl L _ (range_rowd hxV) Try.underlying28 rfl hif ?_) | (with_reducible refine wpList_store_mid rfl 28 _ _ rfl (w.heap.size + 1) 0 L.toArray rfl rfl hTW hifa H6.out.2.2.2.2.2 ?_))
      refine bodyPost_ret (results_row (cs := L) rfl rfl (World.rangeAt_setCells_same _ _ _ _ hTL) Try.underlying28 rfl hif) rfl ?_
      obtain ⟨hbV, hoV, hcV, hpV, hL, -⟩ := H6.out
      have hbut : ∀ k, k < V6.heap.size → k ≠ w.heap.size + 1 → (V6.setCells (w.heap.size + 1) 0 L).heap[k]? = V6.heap[k]? := fun k hk hne => World.heap_setCells_other V6 _ _ _ hk hne
      refine ⟨_, rfl, ⟨.slice B0 N0 c0, .slice B1 j c1, .slice B2 N2 c2, sv, ?_, ⟨?_, hsl, ?_, ?_, ?_⟩⟩, hbV.trans (Lib.below_setCells_w (Nat.le_succ _) _ _ _)⟩
      · rw [hL, HH.out.1]
      · have := own_but (g := w.heap.size + 1) hoV hbut (by omega)
        rw [← HP.out.2.2.2.1]
        exact own_weak this (by omega)
      · rw [← HP.out.2.2.2.2.1]
        exact own_weak (own_but hpV.2.1 hbut hsz) (by omega)
      · exact fun q x s hq hs => own_weak (own_but (hpV.2.2 q x s hq hs) hbut hsz) (by omega)
      · rw [← HP.out.2.2.2.2.2]
        exact own_weak (own_but (g := w.heap.size + 1) hcV hbut (by omega)) (by omega)
end Go.Proofs.Yteamkiblogbfmaa
