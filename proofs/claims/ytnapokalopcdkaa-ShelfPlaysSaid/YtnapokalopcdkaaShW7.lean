/- The walks of shelf.asked and shelf.Get. -/
import Derived.Test.YtnapokalopcdkaaShW6
import Derived.Test.YtnapokalopcdkaaShOps
namespace Go.Proofs.Ytnapokalopcdkaa
open Go.RowKit
set_option linter.unusedVariables false
set_option linter.unusedSimpArgs false

set_option maxRecDepth 100000 in
theorem asked_any (A A' : Option Addr) (n c m c' : Nat) (l : List Pl.Obj) (nm : List UInt8) (w : World) (hl : l.length = n) (ha : Rd w 4 A n (objCs l)) (hn : n ≤ 1000000) :
    Calls Try.prog 25 #[.agg #[.slice A n c, .slice A' m c'], .string ⟨nm.toArray⟩] w (RetB (fun v _ => v = .int .i64 (Pl.askE l nm : Int)) w) := by
  obtain ⟨E, hE⟩ : ∃ E, Pl.chk l = E := ⟨_, rfl⟩
  obtain ⟨q, hq⟩ : ∃ q, Pl.okName nm = q := ⟨_, rfl⟩
  obtain ⟨R, hR⟩ : ∃ R, Pl.askE l nm = R := ⟨_, rfl⟩
  rw [hR]
  unfold Pl.askE at hR
  rw [hE, hq] at hR
  have hck := fun w h => check_any A A' n c m c' l w hl h hn
  have hmn := fun w => mayName_any nm w
  rw [hE] at hck
  rw [hq] at hmn
  have HC := Lib.hid (And.intro hck (And.intro hmn hR)); clear hck hmn hR hE hq hl
  go_enter Try.func25, Try.ntmps25
  go_wp2_with fail
  (with_reducible refine (HC.out.1 _ (by exact ha.alloc _)).mono ?_)
  rintro e w1 ⟨v, rfl, rfl, hb1⟩
  have hb01 : Below w.heap.size w w1 := ((Below.refl _ _).alloc (Nat.le_refl _) _).trans (hb1.mono (by simp))
  by_cases h0 : E = 0
  · subst h0
    go_wp2_with fail
    (with_reducible refine (HC.out.2.1 _).mono ?_)
    rintro e w2 ⟨rfl, rfl⟩
    have hR := HC.out.2.2
    cases q
    · have : R = 7 := by simpa using hR.symm
      subst this
      clear hR
      go_wp2_with fail
      go_ret
      exact ⟨_, rfl, rfl, hb01⟩
    · have : R = 0 := by simpa using hR.symm
      subst this
      clear hR
      go_wp2_with fail
      go_ret
      exact ⟨_, rfl, rfl, hb01⟩
  · have hne : ((E : Int) != 0) = true := by simp; omega
    have hR := HC.out.2.2
    rw [if_pos h0] at hR
    subst hR
    go_wp2_with fail
    go_ret
    exact ⟨_, rfl, rfl, hb01⟩

/-- What Get answers. -/
def GetOut (l : List Pl.Obj) (F : List Int) (b : List UInt8) (e : Nat) (v : Value) (w : World) : Prop :=
  ∃ A c A' c', v = .tuple #[.agg #[.slice A l.length c, .slice A' F.length c'], .string ⟨b.toArray⟩, .int .i64 (e : Int)] ∧ SlAt w 4 A l.length c (objCs l) ∧ SlAt w 1 A' F.length c' (ints F)
theorem own_off {base : Nat} {e : TypeId} {k n : Nat} {A : Option Addr} {c : Nat} {xs : List Value} {w : World} (h : w.ownsRow base e k (.slice A n c) n xs) {B : Nat} (hB : B < base) : A.map Addr.block ≠ some B := by
  rcases h.2 with ⟨h1, -⟩ | ⟨g, cap, cur, h1, h2, -⟩
  · injection h1 with h1; subst h1; simp
  · injection h1 with h1; subst h1; simp; omega
theorem own_sl {base : Nat} {e : TypeId} {k n : Nat} {A : Option Addr} {c : Nat} {xs : List Value} {w : World} (h : w.ownsRow base e k (.slice A n c) n xs) : SlAt w k A n c xs := by
  obtain ⟨A', c', h1, h2⟩ := own_at h
  injection h1 with h1 _ h3
  subst h1 h3
  exact h2
/-- A slice of fates lies in a block of ints. -/
def FTy (A : Option Addr) (W : World) : Prop := ∀ g, A.map Addr.block = some g → ∃ C, W.heap[g]? = some (.cells C 3 (0, 0))
theorem blk_lt {w : World} {g : Nat} {o : Obj} (h : w.heap[g]? = some o) : g < w.heap.size := by
  rcases Nat.lt_or_ge g w.heap.size with hlt | hge
  · exact hlt
  · rw [Array.getElem?_eq_none hge] at h; cases h
theorem FTy.below {A : Option Addr} {W W' : World} (h : FTy A W) (hb : Below W.heap.size W W') : FTy A W' := fun g hg => by
  obtain ⟨C, hC⟩ := h g hg
  exact ⟨C, (hb.block g (blk_lt hC)).trans hC⟩
theorem FTy.set {A : Option Addr} {W : World} (h : FTy A W) {B : Nat} (hA : A.map Addr.block ≠ some B) (i : Nat) (u : Value) : FTy A (W.setCell ⟨B, i, none⟩ u) := fun g hg => by
  obtain ⟨C, hC⟩ := h g hg
  exact ⟨C, (Below.heap_setCell _ _ _ _ (by rintro rfl; exact hA hg)).trans hC⟩
theorem own_ty {base : Nat} {k n : Nat} {A : Option Addr} {c : Nat} {xs : List Value} {w : World} (h : w.ownsRow base 3 k (.slice A n c) n xs) : FTy A w := by
  intro g hg
  rcases h.2 with ⟨h1, -⟩ | ⟨g', cap, cur, h1, -, h2, -⟩
  · injection h1 with h1; subst h1; cases hg
  · injection h1 with h1; subst h1
    simp only [Option.map_some, Option.some.injEq] at hg
    subst hg
    exact ⟨cur, h2⟩
/-- The two boxes of a call: the shelf's variable in block B, what it will answer in block B + 1. -/
structure Bx0 (w0 : World) (B : Nat) (A : Option Addr) (n c : Nat) (A' : Option Addr) (m c' : Nat) (W : World) : Prop where
  box : W.heap[B]? = some (.cells #[.slice A n c, .slice A' m c'] 25 (0, 0))
  res : W.heap[B + 1]? = some (.cells #[.slice none 0 0, .slice none 0 0] 25 (0, 0))
  bel : Below B w0 W
  siz : B + 2 ≤ W.heap.size
/-- .. the shelf's objects are the call's own. -/
structure Bx (w0 : World) (B : Nat) (l : List Pl.Obj) (F : List Int) (A : Option Addr) (n c : Nat) (A' : Option Addr) (m c' : Nat) (W : World) : Prop extends Bx0 w0 B A n c A' m c' W where
  obj : W.ownsRow (B + 2) 50 4 (.slice A n c) n (objCs l)
  fat : SlAt W 1 A' m c' (ints F)
  of0 : A'.map Addr.block ≠ some B
  of1 : A'.map Addr.block ≠ some (B + 1)
  fty : FTy A' W
section
variable {w0 W W' : World} {B : Nat} {l : List Pl.Obj} {F : List Int} {A A' : Option Addr} {n c m c' : Nat}
theorem Bx0.below (h : Bx0 w0 B A n c A' m c' W) (hb : Below W.heap.size W W') : Bx0 w0 B A n c A' m c' W' :=
  ⟨(hb.block _ (by have := h.siz; omega)).trans h.box, (hb.block _ (by have := h.siz; omega)).trans h.res, h.bel.trans (hb.mono (by have := h.siz; omega)), Nat.le_trans h.siz hb.size⟩
theorem Bx.below (h : Bx w0 B l F A n c A' m c' W) (hb : Below W.heap.size W W') : Bx w0 B l F A n c A' m c' W' :=
  ⟨h.toBx0.below hb, own_below h.obj hb, h.fat.below hb, h.of0, h.of1, h.fty.below hb⟩
theorem Bx0.cells (h : Bx0 w0 B A n c A' m c' W) : W.cell? ⟨B, 0, none⟩ = some (.slice A n c) ∧ W.cell? ⟨B, 1, none⟩ = some (.slice A' m c') ∧ W.cell? ⟨B + 1, 0, none⟩ = some (.slice none 0 0) ∧ W.cell? ⟨B + 1, 1, none⟩ = some (.slice none 0 0) ∧ (∀ i, W.frozen? ⟨B, i, none⟩ = false) ∧ ∀ i, W.frozen? ⟨B + 1, i, none⟩ = false :=
  ⟨cell_row W _ 0 _ _ h.box, cell_row W _ 1 _ _ h.box, cell_row W _ 0 _ _ h.res, cell_row W _ 1 _ _ h.res, fun i => frozen_of W _ i _ _ h.box, fun i => frozen_of W _ i _ _ h.res⟩
theorem Bx0.put (h : Bx0 w0 B A n c A' m c' W) {A1 A2 : Option Addr} {n1 c1 m2 c2 : Nat} {l1 : List Pl.Obj} {F2 : List Int} (ho : W.ownsRow (B + 2) 50 4 (.slice A1 n1 c1) n1 (objCs l1)) (hf : SlAt W 1 A2 m2 c2 (ints F2))
    (o0 : A2.map Addr.block ≠ some B) (o1 : A2.map Addr.block ≠ some (B + 1)) (hd : FTy A2 W) : Bx w0 B l1 F2 A1 n1 c1 A2 m2 c2 ((W.setCell ⟨B, 0, none⟩ (.slice A1 n1 c1)).setCell ⟨B, 1, none⟩ (.slice A2 m2 c2)) where
  box := set_at _ _ 1 _ _ _ (set_at _ _ 0 _ _ _ h.box)
  res := (Below.heap_setCell _ _ _ _ (by simp)).trans ((Below.heap_setCell _ _ _ _ (by simp)).trans h.res)
  bel := (h.bel.setCell (Nat.le_refl _) _).setCell (Nat.le_refl _) _
  siz := by simpa [World.size_setCell] using h.siz
  obj := own_set (own_set ho (by omega) _ _) (by omega) _ _
  fat := (hf.set o0 _ _).set o0 _ _
  of0 := o0
  of1 := o1
  fty := (hd.set o0 _ _).set o0 _ _
theorem Bx.ret (h : Bx w0 B l F A n c A' m c' W) : SlAt ((W.setCell ⟨B + 1, 0, none⟩ (.slice A n c)).setCell ⟨B + 1, 1, none⟩ (.slice A' m c')) 4 A n c (objCs l) ∧
    SlAt ((W.setCell ⟨B + 1, 0, none⟩ (.slice A n c)).setCell ⟨B + 1, 1, none⟩ (.slice A' m c')) 1 A' m c' (ints F) ∧ Below B w0 ((W.setCell ⟨B + 1, 0, none⟩ (.slice A n c)).setCell ⟨B + 1, 1, none⟩ (.slice A' m c')) :=
  ⟨((own_sl h.obj).set (own_off h.obj (by omega)) _ _).set (own_off h.obj (by omega)) _ _, (h.fat.set h.of1 _ _).set h.of1 _ _, (h.bel.setCell (by simp) _).setCell (by simp) _⟩
theorem bx_new (w : World) (A A' : Option Addr) (n c m c' : Nat) : Bx0 w w.heap.size A n c A' m c' ((w.alloc (.cells #[.slice A n c, .slice A' m c'] 25)).alloc (.cells #[.slice none 0 0, .slice none 0 0] 25)) where
  box := (Below.heap_alloc _ _ _ (by simp)).trans (heap_alloc_new w _)
  res := heap_alloc_2 w _ _
  bel := ((Below.refl _ _).alloc (Nat.le_refl _) _).alloc (by simp) _
  siz := by simp
end
set_option maxRecDepth 100000 in
set_option maxHeartbeats 2000000 in
theorem get_bad (A A' : Option Addr) (n c m c' : Nat) (l : List Pl.Obj) (F : List Int) (nm : List UInt8) (w : World) (hl : l.length = n) (hF : F.length = m) (hr : SlAt w 4 A n c (objCs l)) (hr' : SlAt w 1 A' m c' (ints F)) (hn : n ≤ 1000000) (hm : m ≤ 1000000)
    (hbad : Pl.askE l nm ≠ 0) :
    Calls Try.prog 12 #[.agg #[.slice A n c, .slice A' m c'], .string ⟨nm.toArray⟩] w (RetB (GetOut l F [] (Pl.askE l nm)) w) := by
  obtain ⟨E, hE⟩ : ∃ E, Pl.askE l nm = E := ⟨_, rfl⟩
  rw [hE] at hbad ⊢
  have hne : ((E : Int) != 0) = true := by simp; omega
  have hco := fun w h h' => copied_any A A' n c m c' l F w hl hF h h' hn hm
  have has := fun A A' c c' w h => asked_any A A' n c m c' l nm w hl h hn
  rw [hE] at has
  have HC := Lib.hid (And.intro hco (And.intro has (And.intro hl hF))); clear hco has hl hF hE
  go_enter Try.func12, Try.ntmps12
  go_wp2_with fail
  have hb0 := bx_new w A A' n c m c'
  obtain ⟨V, hV⟩ : ∃ V, (w.alloc (.cells #[.slice A n c, .slice A' m c'] 25)).alloc (.cells #[.slice none 0 0, .slice none 0 0] 25) = V := ⟨_, rfl⟩
  rw [hV] at hb0 ⊢
  clear hV
  (with_reducible refine (HC.out.1 V (hr.below hb0.bel) (hr'.below hb0.bel)).mono ?_)
  rintro e w1 ⟨v, rfl, ⟨A1, c1, A2, c2, rfl, ho1, ho2⟩, hb1⟩
  rw [HC.out.2.2.1] at ho1 ⊢
  rw [HC.out.2.2.2] at ho2 ⊢
  have hx1 := hb0.below hb1
  obtain ⟨x0, x1, r0, r1, xf, rf⟩ := hx1.cells
  have hsz := hb0.siz
  have hp := hx1.put (own_base ho1 (by omega)) (own_sl ho2) (own_off ho2 (by omega)) (own_off ho2 (by omega)) (own_ty ho2)
  go_wp2_with fail
  obtain ⟨W, hW⟩ : ∃ W, (w1.setCell ⟨w.heap.size, 0, none⟩ (.slice A1 n c1)).setCell ⟨w.heap.size, 1, none⟩ (.slice A2 m c2) = W := ⟨_, rfl⟩
  rw [hW] at hp ⊢
  clear hW x0 x1 r0 r1 xf rf
  (with_reducible refine (HC.out.2.1 _ _ _ _ _ (Rd.own hp.obj)).mono ?_)
  rintro e w2 ⟨v, rfl, rfl, hb2⟩
  have hp2 := hp.below hb2
  obtain ⟨x0, x1, r0, r1, xf, rf⟩ := hp2.cells
  go_wp2_with fail
  refine bodyPost_ret (v := .tuple #[.agg #[.slice A1 n c1, .slice A2 m c2], .string ⟨#[]⟩, .int .i64 (E : Int)]) (by simp [results, Try.results12, go_sem, r0, r1]) rfl ?_
  obtain ⟨g1, g2, g3⟩ := hp2.ret
  refine ⟨_, rfl, ⟨A1, c1, A2, c2, ?_, ?_, ?_⟩, g3⟩
  · rw [HC.out.2.2.1, HC.out.2.2.2]
  · rw [HC.out.2.2.1]; exact g1
  · rw [HC.out.2.2.2]; exact g2
end Go.Proofs.Ytnapokalopcdkaa
