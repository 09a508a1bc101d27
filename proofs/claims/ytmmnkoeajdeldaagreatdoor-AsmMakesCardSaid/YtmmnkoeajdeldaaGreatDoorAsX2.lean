/- The assembler's line of an instruction (printed by genins.py). The assembler's line of an instruction, further (printed by genins.py). -/
import Derived.Test.YtmmnkoeajdeldaaGreatDoorAsX1
import Derived.Test.YtmmnkoeajdeldaaGreatDoorAsEq2
namespace Go.Proofs.YtmmnkoeajdeldaaGreatDoor
open Go.RowKit Go.Maps Go.WideMaps
set_option linter.unusedVariables false
set_option linter.unusedSimpArgs false
attribute [local go_sem] ba_get ba_cut ba_add fld_k fld_s fld_n
/-- The two variables of the line: the instruction, and its number's token. -/
def XT (W : World) (C : Nat) (x : Pl.Ins) (t : Pl.Tk) : Prop := W.heap[C]? = some (.cells (insL x).toArray 33 (0, 0)) ∧ W.heap[C + 1]? = some (.cells (tkL t).toArray 115 (0, 0))
section
variable {W W' : World} {C : Nat} {x : Pl.Ins} {t : Pl.Tk}
theorem XT.lt (h : XT W C x t) : C < W.heap.size := blk_lt h.1
theorem XT.size (h : XT W C x t) : C ≤ W.heap.size := Nat.le_of_lt (blk_lt h.1)
theorem XT.kept (h : XT W C x t) {A : Nat} (hg : W.grownBy W' (some A)) (hA : A < C) : XT W' C x t :=
  ⟨(hg.block _ (blk_lt h.1) (by simp; omega)).trans h.1, (hg.block _ (blk_lt h.2) (by simp; omega)).trans h.2⟩
theorem XT.keep (h : XT W C x t) (hb : Below W.heap.size W W') : XT W' C x t := ⟨(hb.block _ (blk_lt h.1)).trans h.1, (hb.block _ (blk_lt h.2)).trans h.2⟩
theorem XT.x0 (h : XT W C x t) : W.cell? ⟨C, 0, none⟩ = some (.int .u8 (x.op : Int)) := by rw [cell_row W C _ _ _ h.1]; rfl
theorem XT.x1 (h : XT W C x t) : W.cell? ⟨C, 1, none⟩ = some (.int .u8 (x.a : Int)) := by rw [cell_row W C _ _ _ h.1]; rfl
theorem XT.x2 (h : XT W C x t) : W.cell? ⟨C, 2, none⟩ = some (.int .u8 (x.b : Int)) := by rw [cell_row W C _ _ _ h.1]; rfl
theorem XT.x3 (h : XT W C x t) : W.cell? ⟨C, 3, none⟩ = some (.int .u8 (x.c : Int)) := by rw [cell_row W C _ _ _ h.1]; rfl
theorem XT.x4 (h : XT W C x t) : W.cell? ⟨C, 4, none⟩ = some (.int .i32 x.imm) := by rw [cell_row W C _ _ _ h.1]; rfl
theorem XT.t0 (h : XT W C x t) : W.cell? ⟨C + 1, 0, none⟩ = some (.int .i64 (t.k : Int)) := by rw [cell_row W (C + 1) _ _ _ h.2]; rfl
theorem XT.t1 (h : XT W C x t) : W.cell? ⟨C + 1, 1, none⟩ = some (.string ⟨t.s.toArray⟩) := by rw [cell_row W (C + 1) _ _ _ h.2]; rfl
theorem XT.t2 (h : XT W C x t) : W.cell? ⟨C + 1, 2, none⟩ = some (.int .i64 t.n) := by rw [cell_row W (C + 1) _ _ _ h.2]; rfl
theorem XT.fx (h : XT W C x t) (i : Nat) : W.frozen? ⟨C, i, none⟩ = false := frozen_of W C i _ _ h.1
theorem XT.ft (h : XT W C x t) (i : Nat) : W.frozen? ⟨C + 1, i, none⟩ = false := frozen_of W (C + 1) i _ _ h.2
theorem XT.far (h : XT W C x t) (i : Nat) (v : Value) : (W.setCell ⟨C, i, none⟩ v).heap[C + 1]? = some (.cells (tkL t).toArray 115 (0, 0)) := (Below.heap_setCell _ _ _ _ (by show C + 1 ≠ C; omega)).trans h.2
theorem XT.far2 (h : XT W C x t) (i : Nat) (v : Value) : (W.setCell ⟨C + 1, i, none⟩ v).heap[C]? = some (.cells (insL x).toArray 33 (0, 0)) := (Below.heap_setCell _ _ _ _ (by show C ≠ C + 1; omega)).trans h.1
theorem XT.set1 (h : XT W C x t) (v : Nat) : XT (W.setCell ⟨C, 1, none⟩ (.int .u8 (v : Int))) C ⟨x.op, v, x.b, x.c, x.imm⟩ t := ⟨by rw [set_at W C 1 _ _ _ h.1]; rfl, h.far 1 _⟩
theorem XT.set2 (h : XT W C x t) (v : Nat) : XT (W.setCell ⟨C, 2, none⟩ (.int .u8 (v : Int))) C ⟨x.op, x.a, v, x.c, x.imm⟩ t := ⟨by rw [set_at W C 2 _ _ _ h.1]; rfl, h.far 2 _⟩
theorem XT.set3 (h : XT W C x t) (v : Nat) : XT (W.setCell ⟨C, 3, none⟩ (.int .u8 (v : Int))) C ⟨x.op, x.a, x.b, v, x.imm⟩ t := ⟨by rw [set_at W C 3 _ _ _ h.1]; rfl, h.far 3 _⟩
theorem XT.set4 (h : XT W C x t) (v : Int) : XT (W.setCell ⟨C, 4, none⟩ (.int .i32 v)) C ⟨x.op, x.a, x.b, x.c, v⟩ t := ⟨by rw [set_at W C 4 _ _ _ h.1]; rfl, h.far 4 _⟩
theorem XT.setk (h : XT W C x t) (v : Nat) : XT (W.setCell ⟨C + 1, 0, none⟩ (.int .i64 (v : Int))) C x ⟨v, t.s, t.n⟩ := ⟨h.far2 0 _, by rw [set_at W (C + 1) 0 _ _ _ h.2]; rfl⟩
end
theorem LnK.low {a b : World} {C H A N : Nat} (h : Below C a b) (hH : H ≤ C) : LnK a b H A N := ⟨h.os, h.tape, h.output, h.size, fun k h1 _ _ => h.block k (by omega)⟩
/-- A block of another type is turned: the assembler is as it was. -/
theorem AsAt.typed {w w' : World} {H A ln : Nat} {S : Pl.St} {Z : AsV} {Y : List (List UInt8 × Value)} (h : AsAt w H A ln S Z Y) {B : Nat} (hg : w.grownBy w' (some B)) {C : Array Value} {T : TypeId} (hB : w.heap[B]? = some (.cells C T (0, 0)))
    (t1 : T ≠ 64) (t2 : T ≠ 126) (t3 : T ≠ 5) (t4 : T ≠ 3) : AsAt w' H A ln S Z Y := by
  have ho : ∀ (e : TypeId), T ≠ e → ∀ cur, w.heap[B]? ≠ some (.cells cur e (0, 0)) := fun e he cur hc => by
    rw [hB] at hc
    injection hc with hc
    injection hc with _ hc
    exact he hc
  have hm : ∀ {M : Nat} {l : List (List UInt8 × Value)} {c : Nat}, MapV w M l c → some M ≠ some B := fun hM e => by
    obtain ⟨es, k, he⟩ := hM.at_
    injection e with e
    subst e
    rw [hB] at he
    injection he with he
    injection he
  have hAB : some A ≠ some B := fun e => by
    injection e with e
    subst e
    exact ho _ t1 _ h.box.at_
  exact ⟨h.box.kept hg hAB, h.lo, Nat.le_trans h.hi hg.size, own_type h.pcs hg (ho _ t2), own_type h.data hg (ho _ t3), own_type h.rooms hg (ho _ t4), h.names.grown hg (hm h.names), h.nlo, h.ways.grown hg (hm h.ways), h.ylo, h.ny⟩
theorem ins_start {w W : World} {H A M ln op C : Nat} {S : Pl.St} {Z : AsV} {Y : List (List UInt8 × Value)} {l : List Pl.Tk} (hA : AsAt w H A ln S Z Y) (hT : TkAt w A M Z.r l) (hM : M ≤ w.heap.size) (hC : w.heap.size = C)
    (hW : (w.alloc (.cells #[.int .u8 (op : Int), .int .u8 0, .int .u8 0, .int .u8 0, .int .i32 0] 33)).alloc (.cells #[.int .i64 0, .string ⟨#[]⟩, .int .i64 0] 115) = W) :
    AsAt W H A ln S Z Y ∧ TkAt W A M Z.r l ∧ LnK w W H A Z.n ∧ XT W C ⟨op, 0, 0, 0, 0⟩ ⟨0, [], 0⟩ := by
  have hb : Below w.heap.size w W := by rw [← hW]; exact ((Below.refl _ _).alloc (Nat.le_refl _) _).alloc (by simp) _
  refine ⟨hA.new hb, hT.keep hb hM, LnK.low hb hA.hi, ?_, ?_⟩
  · rw [← hW, ← hC, Below.heap_alloc _ _ _ (by simp)]
    exact heap_alloc_new _ _
  · have := heap_alloc_new (w.alloc (.cells #[.int .u8 (op : Int), .int .u8 0, .int .u8 0, .int .u8 0, .int .i32 0] 33)) (.cells #[.int .i64 0, .string ⟨#[]⟩, .int .i64 0] 115)
    rw [hW] at this
    rw [show (w.alloc (.cells #[.int .u8 (op : Int), .int .u8 0, .int .u8 0, .int .u8 0, .int .i32 0] 33)).heap.size = C + 1 by simp [hC]] at this
    exact this
theorem set_tk {W : World} {H A M ln C : Nat} {S : Pl.St} {Z : AsV} {Y : List (List UInt8 × Value)} {l : List Pl.Tk} {v : Value} {x : Pl.Ins} {t0 : Pl.Tk} (h : XT W C x t0) (t : Pl.Tk) (hH : H ≤ C) (hM : M ≤ C) (hA : AsAt W H A ln S Z Y) (hT : TkAt W A M v l) :
    XT (((W.setCell ⟨C + 1, 0, none⟩ (.int .i64 (t.k : Int))).setCell ⟨C + 1, 1, none⟩ (.string ⟨t.s.toArray⟩)).setCell ⟨C + 1, 2, none⟩ (.int .i64 t.n)) C x t ∧
    (∀ A N, LnK W (((W.setCell ⟨C + 1, 0, none⟩ (.int .i64 (t.k : Int))).setCell ⟨C + 1, 1, none⟩ (.string ⟨t.s.toArray⟩)).setCell ⟨C + 1, 2, none⟩ (.int .i64 t.n)) H A N) ∧
    AsAt (((W.setCell ⟨C + 1, 0, none⟩ (.int .i64 (t.k : Int))).setCell ⟨C + 1, 1, none⟩ (.string ⟨t.s.toArray⟩)).setCell ⟨C + 1, 2, none⟩ (.int .i64 t.n)) H A ln S Z Y ∧
    TkAt (((W.setCell ⟨C + 1, 0, none⟩ (.int .i64 (t.k : Int))).setCell ⟨C + 1, 1, none⟩ (.string ⟨t.s.toArray⟩)).setCell ⟨C + 1, 2, none⟩ (.int .i64 t.n)) A M v l := by
  have hb : Below C W (((W.setCell ⟨C + 1, 0, none⟩ (.int .i64 (t.k : Int))).setCell ⟨C + 1, 1, none⟩ (.string ⟨t.s.toArray⟩)).setCell ⟨C + 1, 2, none⟩ (.int .i64 t.n)) :=
    (((Below.refl C W).setCell (p := ⟨C + 1, 0, none⟩) (by show C ≤ C + 1; omega) _).setCell (p := ⟨C + 1, 1, none⟩) (by show C ≤ C + 1; omega) _).setCell (p := ⟨C + 1, 2, none⟩) (by show C ≤ C + 1; omega) _
  have hg : W.grownBy (((W.setCell ⟨C + 1, 0, none⟩ (.int .i64 (t.k : Int))).setCell ⟨C + 1, 1, none⟩ (.string ⟨t.s.toArray⟩)).setCell ⟨C + 1, 2, none⟩ (.int .i64 t.n)) (some (C + 1)) :=
    ((grown_cell _ _ _ _).trans (grown_cell _ _ _ _)).trans (grown_cell _ _ _ _)
  refine ⟨⟨(hg.block C (blk_lt h.1) (by simp)).trans h.1, ?_⟩, fun A N => LnK.low hb hH, hA.typed hg h.2 (by decide) (by decide) (by decide) (by decide), hT.keep hb hM⟩
  rw [set_at _ (C + 1) 2 _ _ _ (set_at _ (C + 1) 1 _ _ _ (set_at W (C + 1) 0 _ _ _ h.2))]
  rfl
set_option maxRecDepth 100000 in
set_option maxHeartbeats 2000000 in
theorem ins_c1 (H A M ln op : Nat) (S : Pl.St) (Z : AsV) (Y : List (List UInt8 × Value)) (l : List Pl.Tk) (w : World) (hA : AsAt w H A ln S Z Y) (hT : TkAt w A M Z.r l) (hM : M ≤ w.heap.size) (hN : S.pcs.length ≤ 900000) (h1 : 1 ≤ op) (h13 : op ≤ 13) :
    Calls Tryz.prog 68 #[.pointer (some ⟨A, 0, none⟩), .int .u8 (op : Int)] w (LnQ w H A ln Z Y (Pl.insP ln op l S)) := by
  have e31 : ((op : Int) != 31) = true := by simp; omega
  obtain ⟨R, hR⟩ : ∃ R, Pl.insP ln op l S = R := ⟨_, rfl⟩
  rw [hR]
  rw [Pl.insP_1 ln op l S h13] at hR
  have HR0 : Hid ((do let (a, l) ← Pl.regP l; let (_, l) ← Pl.wantP 2 l; let (b, l) ← Pl.regP l; let (_, l) ← Pl.wantP 2 l; let (c, l) ← Pl.regP l; Pl.endP l; Pl.finI ln op S (⟨op, a, b, c, 0⟩, ⟨1, [], 0⟩)) = R) := Lib.hid hR
  have HH := Lib.hid (And.intro hA hT)
  obtain ⟨C, hC⟩ : ∃ C, w.heap.size = C := ⟨_, rfl⟩
  have hAC : A < C := by rw [← hC]; exact hA.box.lt
  have hHC : H ≤ C := by rw [← hC]; exact hA.hi
  clear hR hA hT
  go_enter Tryz.func68, Tryz.ntmps68
  go_upto_region 2 with (fail)
  obtain ⟨W, hW⟩ : ∃ W, (w.alloc (.cells #[.int .u8 (op : Int), .int .u8 0, .int .u8 0, .int .u8 0, .int .i32 0] 33)).alloc (.cells #[.int .i64 0, .string ⟨#[]⟩, .int .i64 0] 115) = W := ⟨_, rfl⟩
  have hst := ins_start HH.out.1 HH.out.2 hM hC hW
  have HA0 := Lib.hid hst.1
  have HT0 := Lib.hid hst.2.1
  have HG0 := Lib.hid hst.2.2.1
  have HX0 : Hid (XT W C ⟨op, 0, 0, 0, 0⟩ ⟨0, [], 0⟩) := Lib.hid hst.2.2.2
  rw [hC] at hM
  rw [hW]
  clear hst hW hC
  have HC := Lib.hid (register_any A M ln _ l W HA0.out.box HT0.out)
  go_wp2_with fail
  (with_reducible refine HC.out.mono ?_)
  rintro x w1 ⟨hg, h⟩
  have hr := HR0.out
  rcases hE : Pl.regP l with e | ⟨a, l1⟩
  · rw [hE] at h hr
    obtain rfl := h
    subst hr
    exact ⟨rfl, HG0.out.trans (LnK.box hg HA0.out.hi), rfl⟩
  rw [hE] at h hr
  obtain ⟨rfl, ha16, v, hB1, hT1⟩ := h
  have HR1 : Hid ((do let (_, l) ← Pl.wantP 2 l1; let (b, l) ← Pl.regP l; let (_, l) ← Pl.wantP 2 l; let (c, l) ← Pl.regP l; Pl.endP l; Pl.finI ln op S (⟨op, a, b, c, 0⟩, ⟨1, [], 0⟩)) = R) := Lib.hid hr
  have hx1 := HX0.out.kept hg hAC
  have c9 := hx1.x1
  have f9 := hx1.fx 1
  have HX1 : Hid (XT (w1.setCell ⟨C, 1, none⟩ (.int .u8 (a : Int))) C ⟨op, a, 0, 0, 0⟩ ⟨0, [], 0⟩) := Lib.hid (hx1.set1 a)
  have HG1 := Lib.hid ((HG0.out.trans (LnK.box (N := Z.n) hg HA0.out.hi)).trans (LnK.low ((Below.refl C w1).setCell (p := ⟨C, 1, none⟩) (Nat.le_refl _) (.int .u8 (a : Int))) hHC))
  have HA1 := Lib.hid ((HA0.out.step hg hB1).typed (grown_cell w1 C 1 (.int .u8 (a : Int))) hx1.1 (by decide) (by decide) (by decide) (by decide))
  have HT1 := Lib.hid (hT1.keep ((Below.refl C w1).setCell (p := ⟨C, 1, none⟩) (Nat.le_refl _) (.int .u8 (a : Int))) hM)
  clear hx1
  clear hg hE hB1 hT1 hr HC HR0 HG0 HA0 HT0 HX0
  have HC := Lib.hid (want_any A M ln _ 2 2 rfl l1 (w1.setCell ⟨C, 1, none⟩ (.int .u8 (a : Int))) HA1.out.box HT1.out)
  go_wp2_with fail
  clear c9 f9
  (with_reducible refine HC.out.mono ?_)
  rintro x w2 ⟨hg, h⟩
  have hr := HR1.out
  rcases hE : Pl.wantP 2 l1 with e | ⟨t1, l2⟩
  · rw [hE] at h hr
    obtain rfl := h
    subst hr
    exact ⟨rfl, HG1.out.trans (LnK.box hg HA1.out.hi), rfl⟩
  rw [hE] at h hr
  obtain ⟨rfl, v, hB1, hT1⟩ := h
  have HR2 : Hid ((do let (b, l) ← Pl.regP l2; let (_, l) ← Pl.wantP 2 l; let (c, l) ← Pl.regP l; Pl.endP l; Pl.finI ln op S (⟨op, a, b, c, 0⟩, ⟨1, [], 0⟩)) = R) := Lib.hid hr
  have HX2 := Lib.hid (HX1.out.kept hg hAC)
  have HG2 := Lib.hid (HG1.out.trans (LnK.box (N := Z.n) hg HA1.out.hi))
  have HA2 := Lib.hid (HA1.out.step hg hB1)
  have HT2 := Lib.hid hT1
  rw [show tkV t1 = .agg #[.int .i64 (t1.k : Int), .string ⟨t1.s.toArray⟩, .int .i64 t1.n] from rfl]
  clear hg hE hB1 hT1 hr HC HR1 HG1 HA1 HT1 HX1
  have HC := Lib.hid (register_any A M ln _ l2 w2 HA2.out.box HT2.out)
  go_wp2_with fail
  (with_reducible refine HC.out.mono ?_)
  rintro x w3 ⟨hg, h⟩
  have hr := HR2.out
  rcases hE : Pl.regP l2 with e | ⟨b, l3⟩
  · rw [hE] at h hr
    obtain rfl := h
    subst hr
    exact ⟨rfl, HG2.out.trans (LnK.box hg HA2.out.hi), rfl⟩
  rw [hE] at h hr
  obtain ⟨rfl, hb16, v, hB1, hT1⟩ := h
  have HR3 : Hid ((do let (_, l) ← Pl.wantP 2 l3; let (c, l) ← Pl.regP l; Pl.endP l; Pl.finI ln op S (⟨op, a, b, c, 0⟩, ⟨1, [], 0⟩)) = R) := Lib.hid hr
  have hx1 := HX2.out.kept hg hAC
  have c9 := hx1.x2
  have f9 := hx1.fx 2
  have HX3 : Hid (XT (w3.setCell ⟨C, 2, none⟩ (.int .u8 (b : Int))) C ⟨op, a, b, 0, 0⟩ ⟨0, [], 0⟩) := Lib.hid (hx1.set2 b)
  have HG3 := Lib.hid ((HG2.out.trans (LnK.box (N := Z.n) hg HA2.out.hi)).trans (LnK.low ((Below.refl C w3).setCell (p := ⟨C, 2, none⟩) (Nat.le_refl _) (.int .u8 (b : Int))) hHC))
  have HA3 := Lib.hid ((HA2.out.step hg hB1).typed (grown_cell w3 C 2 (.int .u8 (b : Int))) hx1.1 (by decide) (by decide) (by decide) (by decide))
  have HT3 := Lib.hid (hT1.keep ((Below.refl C w3).setCell (p := ⟨C, 2, none⟩) (Nat.le_refl _) (.int .u8 (b : Int))) hM)
  clear hx1
  clear hg hE hB1 hT1 hr HC HR2 HG2 HA2 HT2 HX2
  have HC := Lib.hid (want_any A M ln _ 2 2 rfl l3 (w3.setCell ⟨C, 2, none⟩ (.int .u8 (b : Int))) HA3.out.box HT3.out)
  go_wp2_with fail
  clear c9 f9
  (with_reducible refine HC.out.mono ?_)
  rintro x w4 ⟨hg, h⟩
  have hr := HR3.out
  rcases hE : Pl.wantP 2 l3 with e | ⟨t3, l4⟩
  · rw [hE] at h hr
    obtain rfl := h
    subst hr
    exact ⟨rfl, HG3.out.trans (LnK.box hg HA3.out.hi), rfl⟩
  rw [hE] at h hr
  obtain ⟨rfl, v, hB1, hT1⟩ := h
  have HR4 : Hid ((do let (c, l) ← Pl.regP l4; Pl.endP l; Pl.finI ln op S (⟨op, a, b, c, 0⟩, ⟨1, [], 0⟩)) = R) := Lib.hid hr
  have HX4 := Lib.hid (HX3.out.kept hg hAC)
  have HG4 := Lib.hid (HG3.out.trans (LnK.box (N := Z.n) hg HA3.out.hi))
  have HA4 := Lib.hid (HA3.out.step hg hB1)
  have HT4 := Lib.hid hT1
  rw [show tkV t3 = .agg #[.int .i64 (t3.k : Int), .string ⟨t3.s.toArray⟩, .int .i64 t3.n] from rfl]
  clear hg hE hB1 hT1 hr HC HR3 HG3 HA3 HT3 HX3
  have HC := Lib.hid (register_any A M ln _ l4 w4 HA4.out.box HT4.out)
  go_wp2_with fail
  (with_reducible refine HC.out.mono ?_)
  rintro x w5 ⟨hg, h⟩
  have hr := HR4.out
  rcases hE : Pl.regP l4 with e | ⟨c, l5⟩
  · rw [hE] at h hr
    obtain rfl := h
    subst hr
    exact ⟨rfl, HG4.out.trans (LnK.box hg HA4.out.hi), rfl⟩
  rw [hE] at h hr
  obtain ⟨rfl, hc16, v, hB1, hT1⟩ := h
  have HR5 : Hid ((do Pl.endP l5; Pl.finI ln op S (⟨op, a, b, c, 0⟩, ⟨1, [], 0⟩)) = R) := Lib.hid hr
  have hx1 := HX4.out.kept hg hAC
  have c9 := hx1.x3
  have f9 := hx1.fx 3
  have HX5 : Hid (XT (w5.setCell ⟨C, 3, none⟩ (.int .u8 (c : Int))) C ⟨op, a, b, c, 0⟩ ⟨0, [], 0⟩) := Lib.hid (hx1.set3 c)
  have HG5 := Lib.hid ((HG4.out.trans (LnK.box (N := Z.n) hg HA4.out.hi)).trans (LnK.low ((Below.refl C w5).setCell (p := ⟨C, 3, none⟩) (Nat.le_refl _) (.int .u8 (c : Int))) hHC))
  have HA5 := Lib.hid ((HA4.out.step hg hB1).typed (grown_cell w5 C 3 (.int .u8 (c : Int))) hx1.1 (by decide) (by decide) (by decide) (by decide))
  have HT5 := Lib.hid (hT1.keep ((Below.refl C w5).setCell (p := ⟨C, 3, none⟩) (Nat.le_refl _) (.int .u8 (c : Int))) hM)
  clear hx1
  clear hg hE hB1 hT1 hr HC HR4 HG4 HA4 HT4 HX4
  have c6 := HX5.out.t0
  have f6 := HX5.out.ft 0
  have HX6 : Hid (XT (((w5.setCell ⟨C, 3, none⟩ (.int .u8 (c : Int)))).setCell ⟨C + 1, 0, none⟩ (.int .i64 1)) C ⟨op, a, b, c, 0⟩ ⟨1, [], 0⟩) := Lib.hid (HX5.out.setk 1)
  have HA6 := Lib.hid (HA5.out.typed (grown_cell (w5.setCell ⟨C, 3, none⟩ (.int .u8 (c : Int))) (C + 1) 0 (.int .i64 1)) HX5.out.2 (by decide) (by decide) (by decide) (by decide))
  have HT6 := Lib.hid (HT5.out.keep ((Below.refl C (w5.setCell ⟨C, 3, none⟩ (.int .u8 (c : Int)))).setCell (p := ⟨C + 1, 0, none⟩) (by show C ≤ C + 1; omega) (.int .i64 1)) hM)
  have HG6 := Lib.hid (HG5.out.trans (LnK.low (N := Z.n) (A := A) ((Below.refl C (w5.setCell ⟨C, 3, none⟩ (.int .u8 (c : Int)))).setCell (p := ⟨C + 1, 0, none⟩) (by show C ≤ C + 1; omega) (.int .i64 1)) hHC))
  have HR6 := HR5
  clear HR5 HG5 HA5 HT5 HX5
  have HC := Lib.hid (end_any A M ln _ l5 (((w5.setCell ⟨C, 3, none⟩ (.int .u8 (c : Int)))).setCell ⟨C + 1, 0, none⟩ (.int .i64 1)) HA6.out.box HT6.out)
  go_wp2_with fail
  clear c9 f9 c6 f6
  (with_reducible refine HC.out.mono ?_)
  rintro x wz ⟨rfl, h⟩
  have hr := HR6.out
  rcases hE : Pl.endP l5 with e | u
  · rw [hE] at h hr
    obtain rfl := h
    subst hr
    exact ⟨rfl, HG6.out, rfl⟩
  rw [hE] at h hr
  obtain rfl := h
  have HRf : Hid (Pl.finI ln op S (⟨op, a, b, c, 0⟩, ⟨1, [], 0⟩) = R) := Lib.hid hr
  obtain ⟨W1, hW1⟩ : ∃ W1, (((w5.setCell ⟨C, 3, none⟩ (.int .u8 (c : Int)))).setCell ⟨C + 1, 0, none⟩ (.int .i64 1)) = W1 := ⟨_, rfl⟩
  rw [hW1] at HG6 HA6 HX6 ⊢
  clear hr hE HC HT6 HR6 hW1
  have d0 := HX6.out.x0
  have d1 := HX6.out.x1
  have d2 := HX6.out.x2
  have d3 := HX6.out.x3
  have d4 := HX6.out.x4
  have g0 := HX6.out.t0
  have g1 := HX6.out.t1
  have g2 := HX6.out.t2
  have hWs := HX6.out.size
  have htk : ¬ (1 : Nat) = 0 := by decide
  have e0 : (((1 : Nat) : Int) == 0) = false := by decide
  have HC := Lib.hid (fit_any A ln _ ⟨op, a, b, c, 0⟩ 0 W1 HA6.out.box ⟨by show op < 256; omega, by show a < 256; omega, by show b < 256; omega, by show c < 256; omega⟩)
  have HR1 : Hid ((Pl.fitP ⟨op, a, b, c, 0⟩ 0 >>= fun n => Except.ok (Pl.addP (Pl.pcI ln ⟨op, a, b, c, n⟩) S)) = R) := Lib.hid (by rw [← HRf.out]; unfold Pl.finI; rw [if_neg htk])
  unfold insV at HC
  go_wp2_with fail
  refine HC.out.mono ?_
  rintro x w8 ⟨hb8, h⟩
  have hr := HR1.out
  have HX9 := Lib.hid (HX6.out.keep hb8)
  have HG9 := Lib.hid (HG6.out.trans (LnK.low (N := Z.n) (A := A) hb8 (Nat.le_trans hHC (Nat.le_of_lt HX6.out.lt))))
  have HA9 := Lib.hid (HA6.out.new hb8)
  rcases hF : Pl.fitP ⟨op, a, b, c, 0⟩ 0 with e | n
  · rw [hF] at h hr
    obtain rfl := h
    subst hr
    exact ⟨rfl, HG9.out, rfl⟩
  rw [hF] at h hr
  obtain rfl := h
  have HR2 : Hid (Except.ok (Pl.addP (Pl.pcI ln ⟨op, a, b, c, n⟩) S) = R) := Lib.hid hr
  clear hr hF hb8 HC HR1 d0 d1 d2 d3 d4 g0 g1 g2
  have d0 := HX9.out.x0
  have d1 := HX9.out.x1
  have d2 := HX9.out.x2
  have d3 := HX9.out.x3
  have d4 := HX9.out.x4
  have f4 := HX9.out.fx 4
  have hs9 := HX9.out.size
  go_upto_region 27 with (fail)
  have hx2 := HX9.out.set4 n
  have HG2 := Lib.hid (HG9.out.trans (LnK.low (N := Z.n) (A := A) ((Below.refl C w8).setCell (p := ⟨C, 4, none⟩) (Nat.le_refl _) (.int .i32 n)) hHC))
  have HA2 := Lib.hid (HA9.out.typed (grown_cell w8 C 4 (.int .i32 n)) HX9.out.1 (by decide) (by decide) (by decide) (by decide))
  obtain ⟨W2, hW2⟩ : ∃ W2, w8.setCell ⟨C, 4, none⟩ (.int .i32 n) = W2 := ⟨_, rfl⟩
  rw [hW2] at hx2 HG2 HA2 ⊢
  clear d0 d1 d2 d3 d4 f4 hW2
  have d0 := hx2.x0
  have d1 := hx2.x1
  have d2 := hx2.x2
  have d3 := hx2.x3
  have d4 := hx2.x4
  clear hx2
  have HC := Lib.hid (add_any H A ln S _ Y ⟨0, ⟨op, a, b, c, n⟩, false, 0, false, [], 0⟩ W2 HA2.out (by omega))
  go_wp2_with fail
  refine HC.out.mono ?_
  rintro x wp ⟨hk, rfl, Z1, z1, z2, z3, hA1⟩
  have HB := Lib.hid (And.intro hk (And.intro z1 (And.intro z2 (And.intro z3 hA1))))
  clear hk z1 z2 z3 hA1 HC d0 d1 d2 d3 d4
  go_wp2_with fail
  refine bodyPost_end (results_none rfl _ _ _) rfl ?_
  rw [← HR2.out]
  exact ⟨HG2.out.trans HB.out.1, rfl, Z1, HB.out.2.1, HB.out.2.2.1, HB.out.2.2.2.1, HB.out.2.2.2.2⟩

set_option maxRecDepth 100000 in
set_option maxHeartbeats 2000000 in
theorem ins_c2 (H A M ln op : Nat) (S : Pl.St) (Z : AsV) (Y : List (List UInt8 × Value)) (l : List Pl.Tk) (w : World) (hA : AsAt w H A ln S Z Y) (hT : TkAt w A M Z.r l) (hM : M ≤ w.heap.size) (hN : S.pcs.length ≤ 900000) (h1 : 14 ≤ op) (h2 : op ≤ 18) :
    Calls Tryz.prog 68 #[.pointer (some ⟨A, 0, none⟩), .int .u8 (op : Int)] w (LnQ w H A ln Z Y (Pl.insP ln op l S)) := by
  have e31 : ((op : Int) != 31) = true := by simp; omega
  have e19 : ((op : Int) == 19) = false := by simp; omega
  have e29 : ((op : Int) == 29) = false := by simp; omega
  have e30 : ((op : Int) == 30) = false := by simp; omega
  have e31b : ((op : Int) == 31) = false := by simp; omega
  obtain ⟨R, hR⟩ : ∃ R, Pl.insP ln op l S = R := ⟨_, rfl⟩
  rw [hR]
  rw [Pl.insP_2 ln op l S (by omega) (by omega) (by omega)] at hR
  have HR0 : Hid ((do let (a, l) ← Pl.regP l; let (_, l) ← Pl.wantP 2 l; let (b, l) ← Pl.regP l; let (_, l) ← Pl.wantP 2 l; let (t, l) ← Pl.valP l; Pl.endP l; Pl.finI ln op S (⟨op, a, b, 0, 0⟩, t)) = R) := Lib.hid hR
  have HH := Lib.hid (And.intro hA hT)
  obtain ⟨C, hC⟩ : ∃ C, w.heap.size = C := ⟨_, rfl⟩
  have hAC : A < C := by rw [← hC]; exact hA.box.lt
  have hHC : H ≤ C := by rw [← hC]; exact hA.hi
  clear hR hA hT
  go_enter Tryz.func68, Tryz.ntmps68
  go_upto_region 2 with (fail)
  obtain ⟨W, hW⟩ : ∃ W, (w.alloc (.cells #[.int .u8 (op : Int), .int .u8 0, .int .u8 0, .int .u8 0, .int .i32 0] 33)).alloc (.cells #[.int .i64 0, .string ⟨#[]⟩, .int .i64 0] 115) = W := ⟨_, rfl⟩
  have hst := ins_start HH.out.1 HH.out.2 hM hC hW
  have HA0 := Lib.hid hst.1
  have HT0 := Lib.hid hst.2.1
  have HG0 := Lib.hid hst.2.2.1
  have HX0 : Hid (XT W C ⟨op, 0, 0, 0, 0⟩ ⟨0, [], 0⟩) := Lib.hid hst.2.2.2
  rw [hC] at hM
  rw [hW]
  clear hst hW hC
  have HC := Lib.hid (register_any A M ln _ l W HA0.out.box HT0.out)
  go_wp2_with fail
  (with_reducible refine HC.out.mono ?_)
  rintro x w1 ⟨hg, h⟩
  have hr := HR0.out
  rcases hE : Pl.regP l with e | ⟨a, l1⟩
  · rw [hE] at h hr
    obtain rfl := h
    subst hr
    exact ⟨rfl, HG0.out.trans (LnK.box hg HA0.out.hi), rfl⟩
  rw [hE] at h hr
  obtain ⟨rfl, ha16, v, hB1, hT1⟩ := h
  have HR1 : Hid ((do let (_, l) ← Pl.wantP 2 l1; let (b, l) ← Pl.regP l; let (_, l) ← Pl.wantP 2 l; let (t, l) ← Pl.valP l; Pl.endP l; Pl.finI ln op S (⟨op, a, b, 0, 0⟩, t)) = R) := Lib.hid hr
  have hx1 := HX0.out.kept hg hAC
  have c9 := hx1.x1
  have f9 := hx1.fx 1
  have HX1 : Hid (XT (w1.setCell ⟨C, 1, none⟩ (.int .u8 (a : Int))) C ⟨op, a, 0, 0, 0⟩ ⟨0, [], 0⟩) := Lib.hid (hx1.set1 a)
  have HG1 := Lib.hid ((HG0.out.trans (LnK.box (N := Z.n) hg HA0.out.hi)).trans (LnK.low ((Below.refl C w1).setCell (p := ⟨C, 1, none⟩) (Nat.le_refl _) (.int .u8 (a : Int))) hHC))
  have HA1 := Lib.hid ((HA0.out.step hg hB1).typed (grown_cell w1 C 1 (.int .u8 (a : Int))) hx1.1 (by decide) (by decide) (by decide) (by decide))
  have HT1 := Lib.hid (hT1.keep ((Below.refl C w1).setCell (p := ⟨C, 1, none⟩) (Nat.le_refl _) (.int .u8 (a : Int))) hM)
  clear hx1
  clear hg hE hB1 hT1 hr HC HR0 HG0 HA0 HT0 HX0
  have HC := Lib.hid (want_any A M ln _ 2 2 rfl l1 (w1.setCell ⟨C, 1, none⟩ (.int .u8 (a : Int))) HA1.out.box HT1.out)
  go_wp2_with fail
  clear c9 f9
  (with_reducible refine HC.out.mono ?_)
  rintro x w2 ⟨hg, h⟩
  have hr := HR1.out
  rcases hE : Pl.wantP 2 l1 with e | ⟨t1, l2⟩
  · rw [hE] at h hr
    obtain rfl := h
    subst hr
    exact ⟨rfl, HG1.out.trans (LnK.box hg HA1.out.hi), rfl⟩
  rw [hE] at h hr
  obtain ⟨rfl, v, hB1, hT1⟩ := h
  have HR2 : Hid ((do let (b, l) ← Pl.regP l2; let (_, l) ← Pl.wantP 2 l; let (t, l) ← Pl.valP l; Pl.endP l; Pl.finI ln op S (⟨op, a, b, 0, 0⟩, t)) = R) := Lib.hid hr
  have HX2 := Lib.hid (HX1.out.kept hg hAC)
  have HG2 := Lib.hid (HG1.out.trans (LnK.box (N := Z.n) hg HA1.out.hi))
  have HA2 := Lib.hid (HA1.out.step hg hB1)
  have HT2 := Lib.hid hT1
  rw [show tkV t1 = .agg #[.int .i64 (t1.k : Int), .string ⟨t1.s.toArray⟩, .int .i64 t1.n] from rfl]
  clear hg hE hB1 hT1 hr HC HR1 HG1 HA1 HT1 HX1
  have HC := Lib.hid (register_any A M ln _ l2 w2 HA2.out.box HT2.out)
  go_wp2_with fail
  (with_reducible refine HC.out.mono ?_)
  rintro x w3 ⟨hg, h⟩
  have hr := HR2.out
  rcases hE : Pl.regP l2 with e | ⟨b, l3⟩
  · rw [hE] at h hr
    obtain rfl := h
    subst hr
    exact ⟨rfl, HG2.out.trans (LnK.box hg HA2.out.hi), rfl⟩
  rw [hE] at h hr
  obtain ⟨rfl, hb16, v, hB1, hT1⟩ := h
  have HR3 : Hid ((do let (_, l) ← Pl.wantP 2 l3; let (t, l) ← Pl.valP l; Pl.endP l; Pl.finI ln op S (⟨op, a, b, 0, 0⟩, t)) = R) := Lib.hid hr
  have hx1 := HX2.out.kept hg hAC
  have c9 := hx1.x2
  have f9 := hx1.fx 2
  have HX3 : Hid (XT (w3.setCell ⟨C, 2, none⟩ (.int .u8 (b : Int))) C ⟨op, a, b, 0, 0⟩ ⟨0, [], 0⟩) := Lib.hid (hx1.set2 b)
  have HG3 := Lib.hid ((HG2.out.trans (LnK.box (N := Z.n) hg HA2.out.hi)).trans (LnK.low ((Below.refl C w3).setCell (p := ⟨C, 2, none⟩) (Nat.le_refl _) (.int .u8 (b : Int))) hHC))
  have HA3 := Lib.hid ((HA2.out.step hg hB1).typed (grown_cell w3 C 2 (.int .u8 (b : Int))) hx1.1 (by decide) (by decide) (by decide) (by decide))
  have HT3 := Lib.hid (hT1.keep ((Below.refl C w3).setCell (p := ⟨C, 2, none⟩) (Nat.le_refl _) (.int .u8 (b : Int))) hM)
  clear hx1
  clear hg hE hB1 hT1 hr HC HR2 HG2 HA2 HT2 HX2
  have HC := Lib.hid (want_any A M ln _ 2 2 rfl l3 (w3.setCell ⟨C, 2, none⟩ (.int .u8 (b : Int))) HA3.out.box HT3.out)
  go_wp2_with fail
  clear c9 f9
  (with_reducible refine HC.out.mono ?_)
  rintro x w4 ⟨hg, h⟩
  have hr := HR3.out
  rcases hE : Pl.wantP 2 l3 with e | ⟨t3, l4⟩
  · rw [hE] at h hr
    obtain rfl := h
    subst hr
    exact ⟨rfl, HG3.out.trans (LnK.box hg HA3.out.hi), rfl⟩
  rw [hE] at h hr
  obtain ⟨rfl, v, hB1, hT1⟩ := h
  have HR4 : Hid ((do let (t, l) ← Pl.valP l4; Pl.endP l; Pl.finI ln op S (⟨op, a, b, 0, 0⟩, t)) = R) := Lib.hid hr
  have HX4 := Lib.hid (HX3.out.kept hg hAC)
  have HG4 := Lib.hid (HG3.out.trans (LnK.box (N := Z.n) hg HA3.out.hi))
  have HA4 := Lib.hid (HA3.out.step hg hB1)
  have HT4 := Lib.hid hT1
  rw [show tkV t3 = .agg #[.int .i64 (t3.k : Int), .string ⟨t3.s.toArray⟩, .int .i64 t3.n] from rfl]
  clear hg hE hB1 hT1 hr HC HR3 HG3 HA3 HT3 HX3
  have HC := Lib.hid (value_any A M ln _ l4 w4 HA4.out.box HT4.out (Nat.le_trans hM HX4.out.size))
  go_wp2_with fail
  (with_reducible refine HC.out.mono ?_)
  rintro x w5 ⟨hg, h⟩
  have hr := HR4.out
  rcases hE : Pl.valP l4 with e | ⟨t, l5⟩
  · rw [hE] at h hr
    obtain rfl := h
    subst hr
    exact ⟨rfl, HG4.out.trans (LnK.box hg HA4.out.hi), rfl⟩
  rw [hE] at h hr
  obtain ⟨rfl, v, hB1, hT1⟩ := h
  have HR5 : Hid ((do Pl.endP l5; Pl.finI ln op S (⟨op, a, b, 0, 0⟩, t)) = R) := Lib.hid hr
  have hx1 := HX4.out.kept hg hAC
  have c7 := hx1.t0
  have c8 := hx1.t1
  have c9 := hx1.t2
  have f7 := hx1.ft 0
  have f8 := hx1.ft 1
  have f9 := hx1.ft 2
  have hv1 := set_tk hx1 t hHC hM (HA4.out.step hg hB1) hT1
  have HX5 := Lib.hid hv1.1
  have HG5 := Lib.hid ((HG4.out.trans (LnK.box (N := Z.n) hg HA4.out.hi)).trans (hv1.2.1 A Z.n))
  have HA5 := Lib.hid hv1.2.2.1
  have HT5 := Lib.hid hv1.2.2.2
  rw [show tkV t = .agg #[.int .i64 (t.k : Int), .string ⟨t.s.toArray⟩, .int .i64 t.n] from rfl]
  clear hx1 hv1
  clear hg hE hB1 hT1 hr HC HR4 HG4 HA4 HT4 HX4
  have HC := Lib.hid (end_any A M ln _ l5 (((w5.setCell ⟨C + 1, 0, none⟩ (.int .i64 (t.k : Int))).setCell ⟨C + 1, 1, none⟩ (.string ⟨t.s.toArray⟩)).setCell ⟨C + 1, 2, none⟩ (.int .i64 t.n)) HA5.out.box HT5.out)
  go_wp2_with fail
  clear c7 c8 c9 f7 f8 f9
  (with_reducible refine HC.out.mono ?_)
  rintro x wz ⟨rfl, h⟩
  have hr := HR5.out
  rcases hE : Pl.endP l5 with e | u
  · rw [hE] at h hr
    obtain rfl := h
    subst hr
    exact ⟨rfl, HG5.out, rfl⟩
  rw [hE] at h hr
  obtain rfl := h
  have HRf : Hid (Pl.finI ln op S (⟨op, a, b, 0, 0⟩, t) = R) := Lib.hid hr
  obtain ⟨W1, hW1⟩ : ∃ W1, (((w5.setCell ⟨C + 1, 0, none⟩ (.int .i64 (t.k : Int))).setCell ⟨C + 1, 1, none⟩ (.string ⟨t.s.toArray⟩)).setCell ⟨C + 1, 2, none⟩ (.int .i64 t.n)) = W1 := ⟨_, rfl⟩
  rw [hW1] at HG5 HA5 HX5 ⊢
  clear hr hE HC HT5 HR5 hW1
  have d0 := HX5.out.x0
  have d1 := HX5.out.x1
  have d2 := HX5.out.x2
  have d3 := HX5.out.x3
  have d4 := HX5.out.x4
  have g0 := HX5.out.t0
  have g1 := HX5.out.t1
  have g2 := HX5.out.t2
  have hWs := HX5.out.size
  by_cases htk : t.k = 0
  · have e0 : ((t.k : Int) == 0) = true := by simp; omega
    have HC := Lib.hid (add_any H A ln S _ Y ⟨0, ⟨op, a, b, 0, 0⟩, false, 0, true, t.s, 0⟩ W1 HA5.out (by omega))
    have HR1 : Hid (Except.ok (Pl.addP (Pl.pcN ln ⟨op, a, b, 0, 0⟩ t.s 0) S) = R) := Lib.hid (by rw [← HRf.out]; unfold Pl.finI; rw [if_pos htk]; rw [if_neg (by omega)])
    go_wp2_with fail
    refine HC.out.mono ?_
    rintro x wp ⟨hk, rfl, Z1, z1, z2, z3, hA1⟩
    have HB := Lib.hid (And.intro hk (And.intro z1 (And.intro z2 (And.intro z3 hA1))))
    clear hk z1 z2 z3 hA1 HC d0 d1 d2 d3 d4 g0 g1 g2
    go_wp2_with fail
    refine bodyPost_ret (v := .tuple #[]) (results_none rfl _ _ _) rfl ?_
    rw [← HR1.out]
    exact ⟨HG5.out.trans HB.out.1, rfl, Z1, HB.out.2.1, HB.out.2.2.1, HB.out.2.2.2.1, HB.out.2.2.2.2⟩
  · have e0 : (((t.k : Nat) : Int) == 0) = false := by simp; omega
    have HC := Lib.hid (fit_any A ln _ ⟨op, a, b, 0, 0⟩ t.n W1 HA5.out.box ⟨by show op < 256; omega, by show a < 256; omega, by show b < 256; omega, by show 0 < 256; omega⟩)
    have HR1 : Hid ((Pl.fitP ⟨op, a, b, 0, 0⟩ t.n >>= fun n => Except.ok (Pl.addP (Pl.pcI ln ⟨op, a, b, 0, n⟩) S)) = R) := Lib.hid (by rw [← HRf.out]; unfold Pl.finI; rw [if_neg htk])
    unfold insV at HC
    go_wp2_with fail
    refine HC.out.mono ?_
    rintro x w8 ⟨hb8, h⟩
    have hr := HR1.out
    have HX9 := Lib.hid (HX5.out.keep hb8)
    have HG9 := Lib.hid (HG5.out.trans (LnK.low (N := Z.n) (A := A) hb8 (Nat.le_trans hHC (Nat.le_of_lt HX5.out.lt))))
    have HA9 := Lib.hid (HA5.out.new hb8)
    rcases hF : Pl.fitP ⟨op, a, b, 0, 0⟩ t.n with e | n
    · rw [hF] at h hr
      obtain rfl := h
      subst hr
      exact ⟨rfl, HG9.out, rfl⟩
    rw [hF] at h hr
    obtain rfl := h
    have HR2 : Hid (Except.ok (Pl.addP (Pl.pcI ln ⟨op, a, b, 0, n⟩) S) = R) := Lib.hid hr
    clear hr hF hb8 HC HR1 d0 d1 d2 d3 d4 g0 g1 g2
    have d0 := HX9.out.x0
    have d1 := HX9.out.x1
    have d2 := HX9.out.x2
    have d3 := HX9.out.x3
    have d4 := HX9.out.x4
    have f4 := HX9.out.fx 4
    have hs9 := HX9.out.size
    go_upto_region 27 with (fail)
    have hx2 := HX9.out.set4 n
    have HG2 := Lib.hid (HG9.out.trans (LnK.low (N := Z.n) (A := A) ((Below.refl C w8).setCell (p := ⟨C, 4, none⟩) (Nat.le_refl _) (.int .i32 n)) hHC))
    have HA2 := Lib.hid (HA9.out.typed (grown_cell w8 C 4 (.int .i32 n)) HX9.out.1 (by decide) (by decide) (by decide) (by decide))
    obtain ⟨W2, hW2⟩ : ∃ W2, w8.setCell ⟨C, 4, none⟩ (.int .i32 n) = W2 := ⟨_, rfl⟩
    rw [hW2] at hx2 HG2 HA2 ⊢
    clear d0 d1 d2 d3 d4 f4 hW2
    have d0 := hx2.x0
    have d1 := hx2.x1
    have d2 := hx2.x2
    have d3 := hx2.x3
    have d4 := hx2.x4
    clear hx2
    have HC := Lib.hid (add_any H A ln S _ Y ⟨0, ⟨op, a, b, 0, n⟩, false, 0, false, [], 0⟩ W2 HA2.out (by omega))
    go_wp2_with fail
    refine HC.out.mono ?_
    rintro x wp ⟨hk, rfl, Z1, z1, z2, z3, hA1⟩
    have HB := Lib.hid (And.intro hk (And.intro z1 (And.intro z2 (And.intro z3 hA1))))
    clear hk z1 z2 z3 hA1 HC d0 d1 d2 d3 d4
    go_wp2_with fail
    refine bodyPost_end (results_none rfl _ _ _) rfl ?_
    rw [← HR2.out]
    exact ⟨HG2.out.trans HB.out.1, rfl, Z1, HB.out.2.1, HB.out.2.2.1, HB.out.2.2.2.1, HB.out.2.2.2.2⟩
set_option maxRecDepth 100000 in
set_option maxHeartbeats 2000000 in
theorem ins_c3 (H A M ln op : Nat) (S : Pl.St) (Z : AsV) (Y : List (List UInt8 × Value)) (l : List Pl.Tk) (w : World) (hA : AsAt w H A ln S Z Y) (hT : TkAt w A M Z.r l) (hM : M ≤ w.heap.size) (hN : S.pcs.length ≤ 900000) (h1 : 25 ≤ op) (h2 : op ≤ 28) :
    Calls Tryz.prog 68 #[.pointer (some ⟨A, 0, none⟩), .int .u8 (op : Int)] w (LnQ w H A ln Z Y (Pl.insP ln op l S)) := by
  have e31 : ((op : Int) != 31) = true := by simp; omega
  have e19 : ((op : Int) == 19) = false := by simp; omega
  have e29 : ((op : Int) == 29) = false := by simp; omega
  have e30 : ((op : Int) == 30) = false := by simp; omega
  have e31b : ((op : Int) == 31) = false := by simp; omega
  obtain ⟨R, hR⟩ : ∃ R, Pl.insP ln op l S = R := ⟨_, rfl⟩
  rw [hR]
  rw [Pl.insP_2 ln op l S (by omega) (by omega) (by omega)] at hR
  have HR0 : Hid ((do let (a, l) ← Pl.regP l; let (_, l) ← Pl.wantP 2 l; let (b, l) ← Pl.regP l; let (_, l) ← Pl.wantP 2 l; let (t, l) ← Pl.valP l; Pl.endP l; Pl.finI ln op S (⟨op, a, b, 0, 0⟩, t)) = R) := Lib.hid hR
  have HH := Lib.hid (And.intro hA hT)
  obtain ⟨C, hC⟩ : ∃ C, w.heap.size = C := ⟨_, rfl⟩
  have hAC : A < C := by rw [← hC]; exact hA.box.lt
  have hHC : H ≤ C := by rw [← hC]; exact hA.hi
  clear hR hA hT
  go_enter Tryz.func68, Tryz.ntmps68
  go_upto_region 2 with (fail)
  obtain ⟨W, hW⟩ : ∃ W, (w.alloc (.cells #[.int .u8 (op : Int), .int .u8 0, .int .u8 0, .int .u8 0, .int .i32 0] 33)).alloc (.cells #[.int .i64 0, .string ⟨#[]⟩, .int .i64 0] 115) = W := ⟨_, rfl⟩
  have hst := ins_start HH.out.1 HH.out.2 hM hC hW
  have HA0 := Lib.hid hst.1
  have HT0 := Lib.hid hst.2.1
  have HG0 := Lib.hid hst.2.2.1
  have HX0 : Hid (XT W C ⟨op, 0, 0, 0, 0⟩ ⟨0, [], 0⟩) := Lib.hid hst.2.2.2
  rw [hC] at hM
  rw [hW]
  clear hst hW hC
  have HC := Lib.hid (register_any A M ln _ l W HA0.out.box HT0.out)
  go_wp2_with fail
  (with_reducible refine HC.out.mono ?_)
  rintro x w1 ⟨hg, h⟩
  have hr := HR0.out
  rcases hE : Pl.regP l with e | ⟨a, l1⟩
  · rw [hE] at h hr
    obtain rfl := h
    subst hr
    exact ⟨rfl, HG0.out.trans (LnK.box hg HA0.out.hi), rfl⟩
  rw [hE] at h hr
  obtain ⟨rfl, ha16, v, hB1, hT1⟩ := h
  have HR1 : Hid ((do let (_, l) ← Pl.wantP 2 l1; let (b, l) ← Pl.regP l; let (_, l) ← Pl.wantP 2 l; let (t, l) ← Pl.valP l; Pl.endP l; Pl.finI ln op S (⟨op, a, b, 0, 0⟩, t)) = R) := Lib.hid hr
  have hx1 := HX0.out.kept hg hAC
  have c9 := hx1.x1
  have f9 := hx1.fx 1
  have HX1 : Hid (XT (w1.setCell ⟨C, 1, none⟩ (.int .u8 (a : Int))) C ⟨op, a, 0, 0, 0⟩ ⟨0, [], 0⟩) := Lib.hid (hx1.set1 a)
  have HG1 := Lib.hid ((HG0.out.trans (LnK.box (N := Z.n) hg HA0.out.hi)).trans (LnK.low ((Below.refl C w1).setCell (p := ⟨C, 1, none⟩) (Nat.le_refl _) (.int .u8 (a : Int))) hHC))
  have HA1 := Lib.hid ((HA0.out.step hg hB1).typed (grown_cell w1 C 1 (.int .u8 (a : Int))) hx1.1 (by decide) (by decide) (by decide) (by decide))
  have HT1 := Lib.hid (hT1.keep ((Below.refl C w1).setCell (p := ⟨C, 1, none⟩) (Nat.le_refl _) (.int .u8 (a : Int))) hM)
  clear hx1
  clear hg hE hB1 hT1 hr HC HR0 HG0 HA0 HT0 HX0
  have HC := Lib.hid (want_any A M ln _ 2 2 rfl l1 (w1.setCell ⟨C, 1, none⟩ (.int .u8 (a : Int))) HA1.out.box HT1.out)
  go_wp2_with fail
  clear c9 f9
  (with_reducible refine HC.out.mono ?_)
  rintro x w2 ⟨hg, h⟩
  have hr := HR1.out
  rcases hE : Pl.wantP 2 l1 with e | ⟨t1, l2⟩
  · rw [hE] at h hr
    obtain rfl := h
    subst hr
    exact ⟨rfl, HG1.out.trans (LnK.box hg HA1.out.hi), rfl⟩
  rw [hE] at h hr
  obtain ⟨rfl, v, hB1, hT1⟩ := h
  have HR2 : Hid ((do let (b, l) ← Pl.regP l2; let (_, l) ← Pl.wantP 2 l; let (t, l) ← Pl.valP l; Pl.endP l; Pl.finI ln op S (⟨op, a, b, 0, 0⟩, t)) = R) := Lib.hid hr
  have HX2 := Lib.hid (HX1.out.kept hg hAC)
  have HG2 := Lib.hid (HG1.out.trans (LnK.box (N := Z.n) hg HA1.out.hi))
  have HA2 := Lib.hid (HA1.out.step hg hB1)
  have HT2 := Lib.hid hT1
  rw [show tkV t1 = .agg #[.int .i64 (t1.k : Int), .string ⟨t1.s.toArray⟩, .int .i64 t1.n] from rfl]
  clear hg hE hB1 hT1 hr HC HR1 HG1 HA1 HT1 HX1
  have HC := Lib.hid (register_any A M ln _ l2 w2 HA2.out.box HT2.out)
  go_wp2_with fail
  (with_reducible refine HC.out.mono ?_)
  rintro x w3 ⟨hg, h⟩
  have hr := HR2.out
  rcases hE : Pl.regP l2 with e | ⟨b, l3⟩
  · rw [hE] at h hr
    obtain rfl := h
    subst hr
    exact ⟨rfl, HG2.out.trans (LnK.box hg HA2.out.hi), rfl⟩
  rw [hE] at h hr
  obtain ⟨rfl, hb16, v, hB1, hT1⟩ := h
  have HR3 : Hid ((do let (_, l) ← Pl.wantP 2 l3; let (t, l) ← Pl.valP l; Pl.endP l; Pl.finI ln op S (⟨op, a, b, 0, 0⟩, t)) = R) := Lib.hid hr
  have hx1 := HX2.out.kept hg hAC
  have c9 := hx1.x2
  have f9 := hx1.fx 2
  have HX3 : Hid (XT (w3.setCell ⟨C, 2, none⟩ (.int .u8 (b : Int))) C ⟨op, a, b, 0, 0⟩ ⟨0, [], 0⟩) := Lib.hid (hx1.set2 b)
  have HG3 := Lib.hid ((HG2.out.trans (LnK.box (N := Z.n) hg HA2.out.hi)).trans (LnK.low ((Below.refl C w3).setCell (p := ⟨C, 2, none⟩) (Nat.le_refl _) (.int .u8 (b : Int))) hHC))
  have HA3 := Lib.hid ((HA2.out.step hg hB1).typed (grown_cell w3 C 2 (.int .u8 (b : Int))) hx1.1 (by decide) (by decide) (by decide) (by decide))
  have HT3 := Lib.hid (hT1.keep ((Below.refl C w3).setCell (p := ⟨C, 2, none⟩) (Nat.le_refl _) (.int .u8 (b : Int))) hM)
  clear hx1
  clear hg hE hB1 hT1 hr HC HR2 HG2 HA2 HT2 HX2
  have HC := Lib.hid (want_any A M ln _ 2 2 rfl l3 (w3.setCell ⟨C, 2, none⟩ (.int .u8 (b : Int))) HA3.out.box HT3.out)
  go_wp2_with fail
  clear c9 f9
  (with_reducible refine HC.out.mono ?_)
  rintro x w4 ⟨hg, h⟩
  have hr := HR3.out
  rcases hE : Pl.wantP 2 l3 with e | ⟨t3, l4⟩
  · rw [hE] at h hr
    obtain rfl := h
    subst hr
    exact ⟨rfl, HG3.out.trans (LnK.box hg HA3.out.hi), rfl⟩
  rw [hE] at h hr
  obtain ⟨rfl, v, hB1, hT1⟩ := h
  have HR4 : Hid ((do let (t, l) ← Pl.valP l4; Pl.endP l; Pl.finI ln op S (⟨op, a, b, 0, 0⟩, t)) = R) := Lib.hid hr
  have HX4 := Lib.hid (HX3.out.kept hg hAC)
  have HG4 := Lib.hid (HG3.out.trans (LnK.box (N := Z.n) hg HA3.out.hi))
  have HA4 := Lib.hid (HA3.out.step hg hB1)
  have HT4 := Lib.hid hT1
  rw [show tkV t3 = .agg #[.int .i64 (t3.k : Int), .string ⟨t3.s.toArray⟩, .int .i64 t3.n] from rfl]
  clear hg hE hB1 hT1 hr HC HR3 HG3 HA3 HT3 HX3
  have HC := Lib.hid (value_any A M ln _ l4 w4 HA4.out.box HT4.out (Nat.le_trans hM HX4.out.size))
  go_wp2_with fail
  (with_reducible refine HC.out.mono ?_)
  rintro x w5 ⟨hg, h⟩
  have hr := HR4.out
  rcases hE : Pl.valP l4 with e | ⟨t, l5⟩
  · rw [hE] at h hr
    obtain rfl := h
    subst hr
    exact ⟨rfl, HG4.out.trans (LnK.box hg HA4.out.hi), rfl⟩
  rw [hE] at h hr
  obtain ⟨rfl, v, hB1, hT1⟩ := h
  have HR5 : Hid ((do Pl.endP l5; Pl.finI ln op S (⟨op, a, b, 0, 0⟩, t)) = R) := Lib.hid hr
  have hx1 := HX4.out.kept hg hAC
  have c7 := hx1.t0
  have c8 := hx1.t1
  have c9 := hx1.t2
  have f7 := hx1.ft 0
  have f8 := hx1.ft 1
  have f9 := hx1.ft 2
  have hv1 := set_tk hx1 t hHC hM (HA4.out.step hg hB1) hT1
  have HX5 := Lib.hid hv1.1
  have HG5 := Lib.hid ((HG4.out.trans (LnK.box (N := Z.n) hg HA4.out.hi)).trans (hv1.2.1 A Z.n))
  have HA5 := Lib.hid hv1.2.2.1
  have HT5 := Lib.hid hv1.2.2.2
  rw [show tkV t = .agg #[.int .i64 (t.k : Int), .string ⟨t.s.toArray⟩, .int .i64 t.n] from rfl]
  clear hx1 hv1
  clear hg hE hB1 hT1 hr HC HR4 HG4 HA4 HT4 HX4
  have HC := Lib.hid (end_any A M ln _ l5 (((w5.setCell ⟨C + 1, 0, none⟩ (.int .i64 (t.k : Int))).setCell ⟨C + 1, 1, none⟩ (.string ⟨t.s.toArray⟩)).setCell ⟨C + 1, 2, none⟩ (.int .i64 t.n)) HA5.out.box HT5.out)
  go_wp2_with fail
  clear c7 c8 c9 f7 f8 f9
  (with_reducible refine HC.out.mono ?_)
  rintro x wz ⟨rfl, h⟩
  have hr := HR5.out
  rcases hE : Pl.endP l5 with e | u
  · rw [hE] at h hr
    obtain rfl := h
    subst hr
    exact ⟨rfl, HG5.out, rfl⟩
  rw [hE] at h hr
  obtain rfl := h
  have HRf : Hid (Pl.finI ln op S (⟨op, a, b, 0, 0⟩, t) = R) := Lib.hid hr
  obtain ⟨W1, hW1⟩ : ∃ W1, (((w5.setCell ⟨C + 1, 0, none⟩ (.int .i64 (t.k : Int))).setCell ⟨C + 1, 1, none⟩ (.string ⟨t.s.toArray⟩)).setCell ⟨C + 1, 2, none⟩ (.int .i64 t.n)) = W1 := ⟨_, rfl⟩
  rw [hW1] at HG5 HA5 HX5 ⊢
  clear hr hE HC HT5 HR5 hW1
  have d0 := HX5.out.x0
  have d1 := HX5.out.x1
  have d2 := HX5.out.x2
  have d3 := HX5.out.x3
  have d4 := HX5.out.x4
  have g0 := HX5.out.t0
  have g1 := HX5.out.t1
  have g2 := HX5.out.t2
  have hWs := HX5.out.size
  by_cases htk : t.k = 0
  · have e0 : ((t.k : Int) == 0) = true := by simp; omega
    have HC := Lib.hid (add_any H A ln S _ Y ⟨0, ⟨op, a, b, 0, 0⟩, false, 0, true, t.s, 3⟩ W1 HA5.out (by omega))
    have HR1 : Hid (Except.ok (Pl.addP (Pl.pcN ln ⟨op, a, b, 0, 0⟩ t.s 3) S) = R) := Lib.hid (by rw [← HRf.out]; unfold Pl.finI; rw [if_pos htk]; rw [if_pos (by omega)])
    go_wp2_with fail
    refine HC.out.mono ?_
    rintro x wp ⟨hk, rfl, Z1, z1, z2, z3, hA1⟩
    have HB := Lib.hid (And.intro hk (And.intro z1 (And.intro z2 (And.intro z3 hA1))))
    clear hk z1 z2 z3 hA1 HC d0 d1 d2 d3 d4 g0 g1 g2
    go_wp2_with fail
    refine bodyPost_ret (v := .tuple #[]) (results_none rfl _ _ _) rfl ?_
    rw [← HR1.out]
    exact ⟨HG5.out.trans HB.out.1, rfl, Z1, HB.out.2.1, HB.out.2.2.1, HB.out.2.2.2.1, HB.out.2.2.2.2⟩
  · have e0 : (((t.k : Nat) : Int) == 0) = false := by simp; omega
    have HC := Lib.hid (fit_any A ln _ ⟨op, a, b, 0, 0⟩ t.n W1 HA5.out.box ⟨by show op < 256; omega, by show a < 256; omega, by show b < 256; omega, by show 0 < 256; omega⟩)
    have HR1 : Hid ((Pl.fitP ⟨op, a, b, 0, 0⟩ t.n >>= fun n => Except.ok (Pl.addP (Pl.pcI ln ⟨op, a, b, 0, n⟩) S)) = R) := Lib.hid (by rw [← HRf.out]; unfold Pl.finI; rw [if_neg htk])
    unfold insV at HC
    go_wp2_with fail
    refine HC.out.mono ?_
    rintro x w8 ⟨hb8, h⟩
    have hr := HR1.out
    have HX9 := Lib.hid (HX5.out.keep hb8)
    have HG9 := Lib.hid (HG5.out.trans (LnK.low (N := Z.n) (A := A) hb8 (Nat.le_trans hHC (Nat.le_of_lt HX5.out.lt))))
    have HA9 := Lib.hid (HA5.out.new hb8)
    rcases hF : Pl.fitP ⟨op, a, b, 0, 0⟩ t.n with e | n
    · rw [hF] at h hr
      obtain rfl := h
      subst hr
      exact ⟨rfl, HG9.out, rfl⟩
    rw [hF] at h hr
    obtain rfl := h
    have HR2 : Hid (Except.ok (Pl.addP (Pl.pcI ln ⟨op, a, b, 0, n⟩) S) = R) := Lib.hid hr
    clear hr hF hb8 HC HR1 d0 d1 d2 d3 d4 g0 g1 g2
    have d0 := HX9.out.x0
    have d1 := HX9.out.x1
    have d2 := HX9.out.x2
    have d3 := HX9.out.x3
    have d4 := HX9.out.x4
    have f4 := HX9.out.fx 4
    have hs9 := HX9.out.size
    go_upto_region 27 with (fail)
    have hx2 := HX9.out.set4 n
    have HG2 := Lib.hid (HG9.out.trans (LnK.low (N := Z.n) (A := A) ((Below.refl C w8).setCell (p := ⟨C, 4, none⟩) (Nat.le_refl _) (.int .i32 n)) hHC))
    have HA2 := Lib.hid (HA9.out.typed (grown_cell w8 C 4 (.int .i32 n)) HX9.out.1 (by decide) (by decide) (by decide) (by decide))
    obtain ⟨W2, hW2⟩ : ∃ W2, w8.setCell ⟨C, 4, none⟩ (.int .i32 n) = W2 := ⟨_, rfl⟩
    rw [hW2] at hx2 HG2 HA2 ⊢
    clear d0 d1 d2 d3 d4 f4 hW2
    have d0 := hx2.x0
    have d1 := hx2.x1
    have d2 := hx2.x2
    have d3 := hx2.x3
    have d4 := hx2.x4
    clear hx2
    have HC := Lib.hid (add_any H A ln S _ Y ⟨0, ⟨op, a, b, 0, n⟩, false, 0, false, [], 0⟩ W2 HA2.out (by omega))
    go_wp2_with fail
    refine HC.out.mono ?_
    rintro x wp ⟨hk, rfl, Z1, z1, z2, z3, hA1⟩
    have HB := Lib.hid (And.intro hk (And.intro z1 (And.intro z2 (And.intro z3 hA1))))
    clear hk z1 z2 z3 hA1 HC d0 d1 d2 d3 d4
    go_wp2_with fail
    refine bodyPost_end (results_none rfl _ _ _) rfl ?_
    rw [← HR2.out]
    exact ⟨HG2.out.trans HB.out.1, rfl, Z1, HB.out.2.1, HB.out.2.2.1, HB.out.2.2.2.1, HB.out.2.2.2.2⟩
set_option maxRecDepth 100000 in
set_option maxHeartbeats 2000000 in
theorem ins_c4 (H A M ln op : Nat) (S : Pl.St) (Z : AsV) (Y : List (List UInt8 × Value)) (l : List Pl.Tk) (w : World) (hA : AsAt w H A ln S Z Y) (hT : TkAt w A M Z.r l) (hM : M ≤ w.heap.size) (hN : S.pcs.length ≤ 900000) (h1 : 19 ≤ op) (h2 : op ≤ 19) :
    Calls Tryz.prog 68 #[.pointer (some ⟨A, 0, none⟩), .int .u8 (op : Int)] w (LnQ w H A ln Z Y (Pl.insP ln op l S)) := by
  have e31 : ((op : Int) != 31) = true := by simp; omega
  have e19 : ((op : Int) == 19) = true := by simp; omega
  have e30 : ((op : Int) == 30) = false := by simp; omega
  obtain ⟨R, hR⟩ : ∃ R, Pl.insP ln op l S = R := ⟨_, rfl⟩
  rw [hR]
  rw [Pl.insP_3 ln op l S (.inl (by omega))] at hR
  have HR0 : Hid ((do let (a, l) ← Pl.regP l; let (_, l) ← Pl.wantP 2 l; let (t, l) ← Pl.valP l; Pl.endP l; Pl.finI ln op S (⟨op, a, 0, 0, 0⟩, t)) = R) := Lib.hid hR
  have HH := Lib.hid (And.intro hA hT)
  obtain ⟨C, hC⟩ : ∃ C, w.heap.size = C := ⟨_, rfl⟩
  have hAC : A < C := by rw [← hC]; exact hA.box.lt
  have hHC : H ≤ C := by rw [← hC]; exact hA.hi
  clear hR hA hT
  go_enter Tryz.func68, Tryz.ntmps68
  go_upto_region 2 with (fail)
  obtain ⟨W, hW⟩ : ∃ W, (w.alloc (.cells #[.int .u8 (op : Int), .int .u8 0, .int .u8 0, .int .u8 0, .int .i32 0] 33)).alloc (.cells #[.int .i64 0, .string ⟨#[]⟩, .int .i64 0] 115) = W := ⟨_, rfl⟩
  have hst := ins_start HH.out.1 HH.out.2 hM hC hW
  have HA0 := Lib.hid hst.1
  have HT0 := Lib.hid hst.2.1
  have HG0 := Lib.hid hst.2.2.1
  have HX0 : Hid (XT W C ⟨op, 0, 0, 0, 0⟩ ⟨0, [], 0⟩) := Lib.hid hst.2.2.2
  rw [hC] at hM
  rw [hW]
  clear hst hW hC
  have HC := Lib.hid (register_any A M ln _ l W HA0.out.box HT0.out)
  go_wp2_with fail
  (with_reducible refine HC.out.mono ?_)
  rintro x w1 ⟨hg, h⟩
  have hr := HR0.out
  rcases hE : Pl.regP l with e | ⟨a, l1⟩
  · rw [hE] at h hr
    obtain rfl := h
    subst hr
    exact ⟨rfl, HG0.out.trans (LnK.box hg HA0.out.hi), rfl⟩
  rw [hE] at h hr
  obtain ⟨rfl, ha16, v, hB1, hT1⟩ := h
  have HR1 : Hid ((do let (_, l) ← Pl.wantP 2 l1; let (t, l) ← Pl.valP l; Pl.endP l; Pl.finI ln op S (⟨op, a, 0, 0, 0⟩, t)) = R) := Lib.hid hr
  have hx1 := HX0.out.kept hg hAC
  have c9 := hx1.x1
  have f9 := hx1.fx 1
  have HX1 : Hid (XT (w1.setCell ⟨C, 1, none⟩ (.int .u8 (a : Int))) C ⟨op, a, 0, 0, 0⟩ ⟨0, [], 0⟩) := Lib.hid (hx1.set1 a)
  have HG1 := Lib.hid ((HG0.out.trans (LnK.box (N := Z.n) hg HA0.out.hi)).trans (LnK.low ((Below.refl C w1).setCell (p := ⟨C, 1, none⟩) (Nat.le_refl _) (.int .u8 (a : Int))) hHC))
  have HA1 := Lib.hid ((HA0.out.step hg hB1).typed (grown_cell w1 C 1 (.int .u8 (a : Int))) hx1.1 (by decide) (by decide) (by decide) (by decide))
  have HT1 := Lib.hid (hT1.keep ((Below.refl C w1).setCell (p := ⟨C, 1, none⟩) (Nat.le_refl _) (.int .u8 (a : Int))) hM)
  clear hx1
  clear hg hE hB1 hT1 hr HC HR0 HG0 HA0 HT0 HX0
  have HC := Lib.hid (want_any A M ln _ 2 2 rfl l1 (w1.setCell ⟨C, 1, none⟩ (.int .u8 (a : Int))) HA1.out.box HT1.out)
  go_wp2_with fail
  clear c9 f9
  (with_reducible refine HC.out.mono ?_)
  rintro x w2 ⟨hg, h⟩
  have hr := HR1.out
  rcases hE : Pl.wantP 2 l1 with e | ⟨t1, l2⟩
  · rw [hE] at h hr
    obtain rfl := h
    subst hr
    exact ⟨rfl, HG1.out.trans (LnK.box hg HA1.out.hi), rfl⟩
  rw [hE] at h hr
  obtain ⟨rfl, v, hB1, hT1⟩ := h
  have HR2 : Hid ((do let (t, l) ← Pl.valP l2; Pl.endP l; Pl.finI ln op S (⟨op, a, 0, 0, 0⟩, t)) = R) := Lib.hid hr
  have HX2 := Lib.hid (HX1.out.kept hg hAC)
  have HG2 := Lib.hid (HG1.out.trans (LnK.box (N := Z.n) hg HA1.out.hi))
  have HA2 := Lib.hid (HA1.out.step hg hB1)
  have HT2 := Lib.hid hT1
  rw [show tkV t1 = .agg #[.int .i64 (t1.k : Int), .string ⟨t1.s.toArray⟩, .int .i64 t1.n] from rfl]
  clear hg hE hB1 hT1 hr HC HR1 HG1 HA1 HT1 HX1
  have HC := Lib.hid (value_any A M ln _ l2 w2 HA2.out.box HT2.out (Nat.le_trans hM HX2.out.size))
  go_wp2_with fail
  (with_reducible refine HC.out.mono ?_)
  rintro x w3 ⟨hg, h⟩
  have hr := HR2.out
  rcases hE : Pl.valP l2 with e | ⟨t, l3⟩
  · rw [hE] at h hr
    obtain rfl := h
    subst hr
    exact ⟨rfl, HG2.out.trans (LnK.box hg HA2.out.hi), rfl⟩
  rw [hE] at h hr
  obtain ⟨rfl, v, hB1, hT1⟩ := h
  have HR3 : Hid ((do Pl.endP l3; Pl.finI ln op S (⟨op, a, 0, 0, 0⟩, t)) = R) := Lib.hid hr
  have hx1 := HX2.out.kept hg hAC
  have c7 := hx1.t0
  have c8 := hx1.t1
  have c9 := hx1.t2
  have f7 := hx1.ft 0
  have f8 := hx1.ft 1
  have f9 := hx1.ft 2
  have hv1 := set_tk hx1 t hHC hM (HA2.out.step hg hB1) hT1
  have HX3 := Lib.hid hv1.1
  have HG3 := Lib.hid ((HG2.out.trans (LnK.box (N := Z.n) hg HA2.out.hi)).trans (hv1.2.1 A Z.n))
  have HA3 := Lib.hid hv1.2.2.1
  have HT3 := Lib.hid hv1.2.2.2
  rw [show tkV t = .agg #[.int .i64 (t.k : Int), .string ⟨t.s.toArray⟩, .int .i64 t.n] from rfl]
  clear hx1 hv1
  clear hg hE hB1 hT1 hr HC HR2 HG2 HA2 HT2 HX2
  have HC := Lib.hid (end_any A M ln _ l3 (((w3.setCell ⟨C + 1, 0, none⟩ (.int .i64 (t.k : Int))).setCell ⟨C + 1, 1, none⟩ (.string ⟨t.s.toArray⟩)).setCell ⟨C + 1, 2, none⟩ (.int .i64 t.n)) HA3.out.box HT3.out)
  go_wp2_with fail
  clear c7 c8 c9 f7 f8 f9
  (with_reducible refine HC.out.mono ?_)
  rintro x wz ⟨rfl, h⟩
  have hr := HR3.out
  rcases hE : Pl.endP l3 with e | u
  · rw [hE] at h hr
    obtain rfl := h
    subst hr
    exact ⟨rfl, HG3.out, rfl⟩
  rw [hE] at h hr
  obtain rfl := h
  have HRf : Hid (Pl.finI ln op S (⟨op, a, 0, 0, 0⟩, t) = R) := Lib.hid hr
  obtain ⟨W1, hW1⟩ : ∃ W1, (((w3.setCell ⟨C + 1, 0, none⟩ (.int .i64 (t.k : Int))).setCell ⟨C + 1, 1, none⟩ (.string ⟨t.s.toArray⟩)).setCell ⟨C + 1, 2, none⟩ (.int .i64 t.n)) = W1 := ⟨_, rfl⟩
  rw [hW1] at HG3 HA3 HX3 ⊢
  clear hr hE HC HT3 HR3 hW1
  have d0 := HX3.out.x0
  have d1 := HX3.out.x1
  have d2 := HX3.out.x2
  have d3 := HX3.out.x3
  have d4 := HX3.out.x4
  have g0 := HX3.out.t0
  have g1 := HX3.out.t1
  have g2 := HX3.out.t2
  have hWs := HX3.out.size
  by_cases htk : t.k = 0
  · have e0 : ((t.k : Int) == 0) = true := by simp; omega
    have HC := Lib.hid (add_any H A ln S _ Y ⟨0, ⟨op, a, 0, 0, 0⟩, false, 0, true, t.s, 0⟩ W1 HA3.out (by omega))
    have HR1 : Hid (Except.ok (Pl.addP (Pl.pcN ln ⟨op, a, 0, 0, 0⟩ t.s 0) S) = R) := Lib.hid (by rw [← HRf.out]; unfold Pl.finI; rw [if_pos htk]; rw [if_neg (by omega)])
    go_wp2_with fail
    refine HC.out.mono ?_
    rintro x wp ⟨hk, rfl, Z1, z1, z2, z3, hA1⟩
    have HB := Lib.hid (And.intro hk (And.intro z1 (And.intro z2 (And.intro z3 hA1))))
    clear hk z1 z2 z3 hA1 HC d0 d1 d2 d3 d4 g0 g1 g2
    go_wp2_with fail
    refine bodyPost_ret (v := .tuple #[]) (results_none rfl _ _ _) rfl ?_
    rw [← HR1.out]
    exact ⟨HG3.out.trans HB.out.1, rfl, Z1, HB.out.2.1, HB.out.2.2.1, HB.out.2.2.2.1, HB.out.2.2.2.2⟩
  · have e0 : (((t.k : Nat) : Int) == 0) = false := by simp; omega
    have HC := Lib.hid (fit_any A ln _ ⟨op, a, 0, 0, 0⟩ t.n W1 HA3.out.box ⟨by show op < 256; omega, by show a < 256; omega, by show 0 < 256; omega, by show 0 < 256; omega⟩)
    have HR1 : Hid ((Pl.fitP ⟨op, a, 0, 0, 0⟩ t.n >>= fun n => Except.ok (Pl.addP (Pl.pcI ln ⟨op, a, 0, 0, n⟩) S)) = R) := Lib.hid (by rw [← HRf.out]; unfold Pl.finI; rw [if_neg htk])
    unfold insV at HC
    go_wp2_with fail
    refine HC.out.mono ?_
    rintro x w8 ⟨hb8, h⟩
    have hr := HR1.out
    have HX9 := Lib.hid (HX3.out.keep hb8)
    have HG9 := Lib.hid (HG3.out.trans (LnK.low (N := Z.n) (A := A) hb8 (Nat.le_trans hHC (Nat.le_of_lt HX3.out.lt))))
    have HA9 := Lib.hid (HA3.out.new hb8)
    rcases hF : Pl.fitP ⟨op, a, 0, 0, 0⟩ t.n with e | n
    · rw [hF] at h hr
      obtain rfl := h
      subst hr
      exact ⟨rfl, HG9.out, rfl⟩
    rw [hF] at h hr
    obtain rfl := h
    have HR2 : Hid (Except.ok (Pl.addP (Pl.pcI ln ⟨op, a, 0, 0, n⟩) S) = R) := Lib.hid hr
    clear hr hF hb8 HC HR1 d0 d1 d2 d3 d4 g0 g1 g2
    have d0 := HX9.out.x0
    have d1 := HX9.out.x1
    have d2 := HX9.out.x2
    have d3 := HX9.out.x3
    have d4 := HX9.out.x4
    have f4 := HX9.out.fx 4
    have hs9 := HX9.out.size
    go_upto_region 27 with (fail)
    have hx2 := HX9.out.set4 n
    have HG2 := Lib.hid (HG9.out.trans (LnK.low (N := Z.n) (A := A) ((Below.refl C w8).setCell (p := ⟨C, 4, none⟩) (Nat.le_refl _) (.int .i32 n)) hHC))
    have HA2 := Lib.hid (HA9.out.typed (grown_cell w8 C 4 (.int .i32 n)) HX9.out.1 (by decide) (by decide) (by decide) (by decide))
    obtain ⟨W2, hW2⟩ : ∃ W2, w8.setCell ⟨C, 4, none⟩ (.int .i32 n) = W2 := ⟨_, rfl⟩
    rw [hW2] at hx2 HG2 HA2 ⊢
    clear d0 d1 d2 d3 d4 f4 hW2
    have d0 := hx2.x0
    have d1 := hx2.x1
    have d2 := hx2.x2
    have d3 := hx2.x3
    have d4 := hx2.x4
    clear hx2
    have HC := Lib.hid (add_any H A ln S _ Y ⟨0, ⟨op, a, 0, 0, n⟩, false, 0, false, [], 0⟩ W2 HA2.out (by omega))
    go_wp2_with fail
    refine HC.out.mono ?_
    rintro x wp ⟨hk, rfl, Z1, z1, z2, z3, hA1⟩
    have HB := Lib.hid (And.intro hk (And.intro z1 (And.intro z2 (And.intro z3 hA1))))
    clear hk z1 z2 z3 hA1 HC d0 d1 d2 d3 d4
    go_wp2_with fail
    refine bodyPost_end (results_none rfl _ _ _) rfl ?_
    rw [← HR2.out]
    exact ⟨HG2.out.trans HB.out.1, rfl, Z1, HB.out.2.1, HB.out.2.2.1, HB.out.2.2.2.1, HB.out.2.2.2.2⟩
end Go.Proofs.YtmmnkoeajdeldaaGreatDoor
namespace Go.Proofs.YtmmnkoeajdeldaaGreatDoor
open Go.RowKit Go.Maps Go.WideMaps
set_option linter.unusedVariables false
set_option linter.unusedSimpArgs false
attribute [local go_sem] ba_get ba_cut ba_add fld_k fld_s fld_n
set_option maxRecDepth 100000 in
set_option maxHeartbeats 2000000 in
theorem ins_c5 (H A M ln op : Nat) (S : Pl.St) (Z : AsV) (Y : List (List UInt8 × Value)) (l : List Pl.Tk) (w : World) (hA : AsAt w H A ln S Z Y) (hT : TkAt w A M Z.r l) (hM : M ≤ w.heap.size) (hN : S.pcs.length ≤ 900000) (h1 : 29 ≤ op) (h2 : op ≤ 29) :
    Calls Tryz.prog 68 #[.pointer (some ⟨A, 0, none⟩), .int .u8 (op : Int)] w (LnQ w H A ln Z Y (Pl.insP ln op l S)) := by
  have e31 : ((op : Int) != 31) = true := by simp; omega
  have e19 : ((op : Int) == 19) = false := by simp; omega
  have e29 : ((op : Int) == 29) = true := by simp; omega
  have e30 : ((op : Int) == 30) = false := by simp; omega
  obtain ⟨R, hR⟩ : ∃ R, Pl.insP ln op l S = R := ⟨_, rfl⟩
  rw [hR]
  rw [Pl.insP_3 ln op l S (.inr (by omega))] at hR
  have HR0 : Hid ((do let (a, l) ← Pl.regP l; let (_, l) ← Pl.wantP 2 l; let (t, l) ← Pl.valP l; Pl.endP l; Pl.finI ln op S (⟨op, a, 0, 0, 0⟩, t)) = R) := Lib.hid hR
  have HH := Lib.hid (And.intro hA hT)
  obtain ⟨C, hC⟩ : ∃ C, w.heap.size = C := ⟨_, rfl⟩
  have hAC : A < C := by rw [← hC]; exact hA.box.lt
  have hHC : H ≤ C := by rw [← hC]; exact hA.hi
  clear hR hA hT
  go_enter Tryz.func68, Tryz.ntmps68
  go_upto_region 2 with (fail)
  obtain ⟨W, hW⟩ : ∃ W, (w.alloc (.cells #[.int .u8 (op : Int), .int .u8 0, .int .u8 0, .int .u8 0, .int .i32 0] 33)).alloc (.cells #[.int .i64 0, .string ⟨#[]⟩, .int .i64 0] 115) = W := ⟨_, rfl⟩
  have hst := ins_start HH.out.1 HH.out.2 hM hC hW
  have HA0 := Lib.hid hst.1
  have HT0 := Lib.hid hst.2.1
  have HG0 := Lib.hid hst.2.2.1
  have HX0 : Hid (XT W C ⟨op, 0, 0, 0, 0⟩ ⟨0, [], 0⟩) := Lib.hid hst.2.2.2
  rw [hC] at hM
  rw [hW]
  clear hst hW hC
  have HC := Lib.hid (register_any A M ln _ l W HA0.out.box HT0.out)
  go_wp2_with fail
  (with_reducible refine HC.out.mono ?_)
  rintro x w1 ⟨hg, h⟩
  have hr := HR0.out
  rcases hE : Pl.regP l with e | ⟨a, l1⟩
  · rw [hE] at h hr
    obtain rfl := h
    subst hr
    exact ⟨rfl, HG0.out.trans (LnK.box hg HA0.out.hi), rfl⟩
  rw [hE] at h hr
  obtain ⟨rfl, ha16, v, hB1, hT1⟩ := h
  have HR1 : Hid ((do let (_, l) ← Pl.wantP 2 l1; let (t, l) ← Pl.valP l; Pl.endP l; Pl.finI ln op S (⟨op, a, 0, 0, 0⟩, t)) = R) := Lib.hid hr
  have hx1 := HX0.out.kept hg hAC
  have c9 := hx1.x1
  have f9 := hx1.fx 1
  have HX1 : Hid (XT (w1.setCell ⟨C, 1, none⟩ (.int .u8 (a : Int))) C ⟨op, a, 0, 0, 0⟩ ⟨0, [], 0⟩) := Lib.hid (hx1.set1 a)
  have HG1 := Lib.hid ((HG0.out.trans (LnK.box (N := Z.n) hg HA0.out.hi)).trans (LnK.low ((Below.refl C w1).setCell (p := ⟨C, 1, none⟩) (Nat.le_refl _) (.int .u8 (a : Int))) hHC))
  have HA1 := Lib.hid ((HA0.out.step hg hB1).typed (grown_cell w1 C 1 (.int .u8 (a : Int))) hx1.1 (by decide) (by decide) (by decide) (by decide))
  have HT1 := Lib.hid (hT1.keep ((Below.refl C w1).setCell (p := ⟨C, 1, none⟩) (Nat.le_refl _) (.int .u8 (a : Int))) hM)
  clear hx1
  clear hg hE hB1 hT1 hr HC HR0 HG0 HA0 HT0 HX0
  have HC := Lib.hid (want_any A M ln _ 2 2 rfl l1 (w1.setCell ⟨C, 1, none⟩ (.int .u8 (a : Int))) HA1.out.box HT1.out)
  go_wp2_with fail
  clear c9 f9
  (with_reducible refine HC.out.mono ?_)
  rintro x w2 ⟨hg, h⟩
  have hr := HR1.out
  rcases hE : Pl.wantP 2 l1 with e | ⟨t1, l2⟩
  · rw [hE] at h hr
    obtain rfl := h
    subst hr
    exact ⟨rfl, HG1.out.trans (LnK.box hg HA1.out.hi), rfl⟩
  rw [hE] at h hr
  obtain ⟨rfl, v, hB1, hT1⟩ := h
  have HR2 : Hid ((do let (t, l) ← Pl.valP l2; Pl.endP l; Pl.finI ln op S (⟨op, a, 0, 0, 0⟩, t)) = R) := Lib.hid hr
  have HX2 := Lib.hid (HX1.out.kept hg hAC)
  have HG2 := Lib.hid (HG1.out.trans (LnK.box (N := Z.n) hg HA1.out.hi))
  have HA2 := Lib.hid (HA1.out.step hg hB1)
  have HT2 := Lib.hid hT1
  rw [show tkV t1 = .agg #[.int .i64 (t1.k : Int), .string ⟨t1.s.toArray⟩, .int .i64 t1.n] from rfl]
  clear hg hE hB1 hT1 hr HC HR1 HG1 HA1 HT1 HX1
  have HC := Lib.hid (value_any A M ln _ l2 w2 HA2.out.box HT2.out (Nat.le_trans hM HX2.out.size))
  go_wp2_with fail
  (with_reducible refine HC.out.mono ?_)
  rintro x w3 ⟨hg, h⟩
  have hr := HR2.out
  rcases hE : Pl.valP l2 with e | ⟨t, l3⟩
  · rw [hE] at h hr
    obtain rfl := h
    subst hr
    exact ⟨rfl, HG2.out.trans (LnK.box hg HA2.out.hi), rfl⟩
  rw [hE] at h hr
  obtain ⟨rfl, v, hB1, hT1⟩ := h
  have HR3 : Hid ((do Pl.endP l3; Pl.finI ln op S (⟨op, a, 0, 0, 0⟩, t)) = R) := Lib.hid hr
  have hx1 := HX2.out.kept hg hAC
  have c7 := hx1.t0
  have c8 := hx1.t1
  have c9 := hx1.t2
  have f7 := hx1.ft 0
  have f8 := hx1.ft 1
  have f9 := hx1.ft 2
  have hv1 := set_tk hx1 t hHC hM (HA2.out.step hg hB1) hT1
  have HX3 := Lib.hid hv1.1
  have HG3 := Lib.hid ((HG2.out.trans (LnK.box (N := Z.n) hg HA2.out.hi)).trans (hv1.2.1 A Z.n))
  have HA3 := Lib.hid hv1.2.2.1
  have HT3 := Lib.hid hv1.2.2.2
  rw [show tkV t = .agg #[.int .i64 (t.k : Int), .string ⟨t.s.toArray⟩, .int .i64 t.n] from rfl]
  clear hx1 hv1
  clear hg hE hB1 hT1 hr HC HR2 HG2 HA2 HT2 HX2
  have HC := Lib.hid (end_any A M ln _ l3 (((w3.setCell ⟨C + 1, 0, none⟩ (.int .i64 (t.k : Int))).setCell ⟨C + 1, 1, none⟩ (.string ⟨t.s.toArray⟩)).setCell ⟨C + 1, 2, none⟩ (.int .i64 t.n)) HA3.out.box HT3.out)
  go_wp2_with fail
  clear c7 c8 c9 f7 f8 f9
  (with_reducible refine HC.out.mono ?_)
  rintro x wz ⟨rfl, h⟩
  have hr := HR3.out
  rcases hE : Pl.endP l3 with e | u
  · rw [hE] at h hr
    obtain rfl := h
    subst hr
    exact ⟨rfl, HG3.out, rfl⟩
  rw [hE] at h hr
  obtain rfl := h
  have HRf : Hid (Pl.finI ln op S (⟨op, a, 0, 0, 0⟩, t) = R) := Lib.hid hr
  obtain ⟨W1, hW1⟩ : ∃ W1, (((w3.setCell ⟨C + 1, 0, none⟩ (.int .i64 (t.k : Int))).setCell ⟨C + 1, 1, none⟩ (.string ⟨t.s.toArray⟩)).setCell ⟨C + 1, 2, none⟩ (.int .i64 t.n)) = W1 := ⟨_, rfl⟩
  rw [hW1] at HG3 HA3 HX3 ⊢
  clear hr hE HC HT3 HR3 hW1
  have d0 := HX3.out.x0
  have d1 := HX3.out.x1
  have d2 := HX3.out.x2
  have d3 := HX3.out.x3
  have d4 := HX3.out.x4
  have g0 := HX3.out.t0
  have g1 := HX3.out.t1
  have g2 := HX3.out.t2
  have hWs := HX3.out.size
  by_cases htk : t.k = 0
  · have e0 : ((t.k : Int) == 0) = true := by simp; omega
    have HC := Lib.hid (add_any H A ln S _ Y ⟨0, ⟨op, a, 0, 0, 0⟩, false, 0, true, t.s, 3⟩ W1 HA3.out (by omega))
    have HR1 : Hid (Except.ok (Pl.addP (Pl.pcN ln ⟨op, a, 0, 0, 0⟩ t.s 3) S) = R) := Lib.hid (by rw [← HRf.out]; unfold Pl.finI; rw [if_pos htk]; rw [if_pos (by omega)])
    go_wp2_with fail
    refine HC.out.mono ?_
    rintro x wp ⟨hk, rfl, Z1, z1, z2, z3, hA1⟩
    have HB := Lib.hid (And.intro hk (And.intro z1 (And.intro z2 (And.intro z3 hA1))))
    clear hk z1 z2 z3 hA1 HC d0 d1 d2 d3 d4 g0 g1 g2
    go_wp2_with fail
    refine bodyPost_ret (v := .tuple #[]) (results_none rfl _ _ _) rfl ?_
    rw [← HR1.out]
    exact ⟨HG3.out.trans HB.out.1, rfl, Z1, HB.out.2.1, HB.out.2.2.1, HB.out.2.2.2.1, HB.out.2.2.2.2⟩
  · have e0 : (((t.k : Nat) : Int) == 0) = false := by simp; omega
    have HC := Lib.hid (fit_any A ln _ ⟨op, a, 0, 0, 0⟩ t.n W1 HA3.out.box ⟨by show op < 256; omega, by show a < 256; omega, by show 0 < 256; omega, by show 0 < 256; omega⟩)
    have HR1 : Hid ((Pl.fitP ⟨op, a, 0, 0, 0⟩ t.n >>= fun n => Except.ok (Pl.addP (Pl.pcI ln ⟨op, a, 0, 0, n⟩) S)) = R) := Lib.hid (by rw [← HRf.out]; unfold Pl.finI; rw [if_neg htk])
    unfold insV at HC
    go_wp2_with fail
    refine HC.out.mono ?_
    rintro x w8 ⟨hb8, h⟩
    have hr := HR1.out
    have HX9 := Lib.hid (HX3.out.keep hb8)
    have HG9 := Lib.hid (HG3.out.trans (LnK.low (N := Z.n) (A := A) hb8 (Nat.le_trans hHC (Nat.le_of_lt HX3.out.lt))))
    have HA9 := Lib.hid (HA3.out.new hb8)
    rcases hF : Pl.fitP ⟨op, a, 0, 0, 0⟩ t.n with e | n
    · rw [hF] at h hr
      obtain rfl := h
      subst hr
      exact ⟨rfl, HG9.out, rfl⟩
    rw [hF] at h hr
    obtain rfl := h
    have HR2 : Hid (Except.ok (Pl.addP (Pl.pcI ln ⟨op, a, 0, 0, n⟩) S) = R) := Lib.hid hr
    clear hr hF hb8 HC HR1 d0 d1 d2 d3 d4 g0 g1 g2
    have d0 := HX9.out.x0
    have d1 := HX9.out.x1
    have d2 := HX9.out.x2
    have d3 := HX9.out.x3
    have d4 := HX9.out.x4
    have f4 := HX9.out.fx 4
    have hs9 := HX9.out.size
    go_upto_region 27 with (fail)
    have hx2 := HX9.out.set4 n
    have HG2 := Lib.hid (HG9.out.trans (LnK.low (N := Z.n) (A := A) ((Below.refl C w8).setCell (p := ⟨C, 4, none⟩) (Nat.le_refl _) (.int .i32 n)) hHC))
    have HA2 := Lib.hid (HA9.out.typed (grown_cell w8 C 4 (.int .i32 n)) HX9.out.1 (by decide) (by decide) (by decide) (by decide))
    obtain ⟨W2, hW2⟩ : ∃ W2, w8.setCell ⟨C, 4, none⟩ (.int .i32 n) = W2 := ⟨_, rfl⟩
    rw [hW2] at hx2 HG2 HA2 ⊢
    clear d0 d1 d2 d3 d4 f4 hW2
    have d0 := hx2.x0
    have d1 := hx2.x1
    have d2 := hx2.x2
    have d3 := hx2.x3
    have d4 := hx2.x4
    clear hx2
    have HC := Lib.hid (add_any H A ln S _ Y ⟨0, ⟨op, a, 0, 0, n⟩, false, 0, false, [], 0⟩ W2 HA2.out (by omega))
    go_wp2_with fail
    refine HC.out.mono ?_
    rintro x wp ⟨hk, rfl, Z1, z1, z2, z3, hA1⟩
    have HB := Lib.hid (And.intro hk (And.intro z1 (And.intro z2 (And.intro z3 hA1))))
    clear hk z1 z2 z3 hA1 HC d0 d1 d2 d3 d4
    go_wp2_with fail
    refine bodyPost_end (results_none rfl _ _ _) rfl ?_
    rw [← HR2.out]
    exact ⟨HG2.out.trans HB.out.1, rfl, Z1, HB.out.2.1, HB.out.2.2.1, HB.out.2.2.2.1, HB.out.2.2.2.2⟩
set_option maxRecDepth 100000 in
set_option maxHeartbeats 2000000 in
theorem ins_c6 (H A M ln op : Nat) (S : Pl.St) (Z : AsV) (Y : List (List UInt8 × Value)) (l : List Pl.Tk) (w : World) (hA : AsAt w H A ln S Z Y) (hT : TkAt w A M Z.r l) (hM : M ≤ w.heap.size) (hN : S.pcs.length ≤ 900000) (h1 : 20 ≤ op) (h2 : op ≤ 24) :
    Calls Tryz.prog 68 #[.pointer (some ⟨A, 0, none⟩), .int .u8 (op : Int)] w (LnQ w H A ln Z Y (Pl.insP ln op l S)) := by
  have e31 : ((op : Int) != 31) = true := by simp; omega
  obtain ⟨R, hR⟩ : ∃ R, Pl.insP ln op l S = R := ⟨_, rfl⟩
  rw [hR]
  rw [Pl.insP_4 ln op l S (.inl ⟨h1, h2⟩)] at hR
  have HR0 : Hid ((do let (a, l) ← Pl.regP l; let (_, l) ← Pl.wantP 2 l; let (t, l) ← Pl.valP l; let (_, l) ← Pl.wantP 4 l; let (b, l) ← Pl.regP l; let (_, l) ← Pl.wantP 5 l; Pl.endP l; Pl.finI ln op S (⟨op, a, b, 0, 0⟩, t)) = R) := Lib.hid hR
  have HH := Lib.hid (And.intro hA hT)
  obtain ⟨C, hC⟩ : ∃ C, w.heap.size = C := ⟨_, rfl⟩
  have hAC : A < C := by rw [← hC]; exact hA.box.lt
  have hHC : H ≤ C := by rw [← hC]; exact hA.hi
  clear hR hA hT
  go_enter Tryz.func68, Tryz.ntmps68
  go_upto_region 2 with (fail)
  obtain ⟨W, hW⟩ : ∃ W, (w.alloc (.cells #[.int .u8 (op : Int), .int .u8 0, .int .u8 0, .int .u8 0, .int .i32 0] 33)).alloc (.cells #[.int .i64 0, .string ⟨#[]⟩, .int .i64 0] 115) = W := ⟨_, rfl⟩
  have hst := ins_start HH.out.1 HH.out.2 hM hC hW
  have HA0 := Lib.hid hst.1
  have HT0 := Lib.hid hst.2.1
  have HG0 := Lib.hid hst.2.2.1
  have HX0 : Hid (XT W C ⟨op, 0, 0, 0, 0⟩ ⟨0, [], 0⟩) := Lib.hid hst.2.2.2
  rw [hC] at hM
  rw [hW]
  clear hst hW hC
  have HC := Lib.hid (register_any A M ln _ l W HA0.out.box HT0.out)
  go_wp2_with fail
  (with_reducible refine HC.out.mono ?_)
  rintro x w1 ⟨hg, h⟩
  have hr := HR0.out
  rcases hE : Pl.regP l with e | ⟨a, l1⟩
  · rw [hE] at h hr
    obtain rfl := h
    subst hr
    exact ⟨rfl, HG0.out.trans (LnK.box hg HA0.out.hi), rfl⟩
  rw [hE] at h hr
  obtain ⟨rfl, ha16, v, hB1, hT1⟩ := h
  have HR1 : Hid ((do let (_, l) ← Pl.wantP 2 l1; let (t, l) ← Pl.valP l; let (_, l) ← Pl.wantP 4 l; let (b, l) ← Pl.regP l; let (_, l) ← Pl.wantP 5 l; Pl.endP l; Pl.finI ln op S (⟨op, a, b, 0, 0⟩, t)) = R) := Lib.hid hr
  have hx1 := HX0.out.kept hg hAC
  have c9 := hx1.x1
  have f9 := hx1.fx 1
  have HX1 : Hid (XT (w1.setCell ⟨C, 1, none⟩ (.int .u8 (a : Int))) C ⟨op, a, 0, 0, 0⟩ ⟨0, [], 0⟩) := Lib.hid (hx1.set1 a)
  have HG1 := Lib.hid ((HG0.out.trans (LnK.box (N := Z.n) hg HA0.out.hi)).trans (LnK.low ((Below.refl C w1).setCell (p := ⟨C, 1, none⟩) (Nat.le_refl _) (.int .u8 (a : Int))) hHC))
  have HA1 := Lib.hid ((HA0.out.step hg hB1).typed (grown_cell w1 C 1 (.int .u8 (a : Int))) hx1.1 (by decide) (by decide) (by decide) (by decide))
  have HT1 := Lib.hid (hT1.keep ((Below.refl C w1).setCell (p := ⟨C, 1, none⟩) (Nat.le_refl _) (.int .u8 (a : Int))) hM)
  clear hx1
  clear hg hE hB1 hT1 hr HC HR0 HG0 HA0 HT0 HX0
  have HC := Lib.hid (want_any A M ln _ 2 2 rfl l1 (w1.setCell ⟨C, 1, none⟩ (.int .u8 (a : Int))) HA1.out.box HT1.out)
  go_wp2_with fail
  clear c9 f9
  (with_reducible refine HC.out.mono ?_)
  rintro x w2 ⟨hg, h⟩
  have hr := HR1.out
  rcases hE : Pl.wantP 2 l1 with e | ⟨t1, l2⟩
  · rw [hE] at h hr
    obtain rfl := h
    subst hr
    exact ⟨rfl, HG1.out.trans (LnK.box hg HA1.out.hi), rfl⟩
  rw [hE] at h hr
  obtain ⟨rfl, v, hB1, hT1⟩ := h
  have HR2 : Hid ((do let (t, l) ← Pl.valP l2; let (_, l) ← Pl.wantP 4 l; let (b, l) ← Pl.regP l; let (_, l) ← Pl.wantP 5 l; Pl.endP l; Pl.finI ln op S (⟨op, a, b, 0, 0⟩, t)) = R) := Lib.hid hr
  have HX2 := Lib.hid (HX1.out.kept hg hAC)
  have HG2 := Lib.hid (HG1.out.trans (LnK.box (N := Z.n) hg HA1.out.hi))
  have HA2 := Lib.hid (HA1.out.step hg hB1)
  have HT2 := Lib.hid hT1
  rw [show tkV t1 = .agg #[.int .i64 (t1.k : Int), .string ⟨t1.s.toArray⟩, .int .i64 t1.n] from rfl]
  clear hg hE hB1 hT1 hr HC HR1 HG1 HA1 HT1 HX1
  have HC := Lib.hid (value_any A M ln _ l2 w2 HA2.out.box HT2.out (Nat.le_trans hM HX2.out.size))
  go_wp2_with fail
  (with_reducible refine HC.out.mono ?_)
  rintro x w3 ⟨hg, h⟩
  have hr := HR2.out
  rcases hE : Pl.valP l2 with e | ⟨t, l3⟩
  · rw [hE] at h hr
    obtain rfl := h
    subst hr
    exact ⟨rfl, HG2.out.trans (LnK.box hg HA2.out.hi), rfl⟩
  rw [hE] at h hr
  obtain ⟨rfl, v, hB1, hT1⟩ := h
  have HR3 : Hid ((do let (_, l) ← Pl.wantP 4 l3; let (b, l) ← Pl.regP l; let (_, l) ← Pl.wantP 5 l; Pl.endP l; Pl.finI ln op S (⟨op, a, b, 0, 0⟩, t)) = R) := Lib.hid hr
  have hx1 := HX2.out.kept hg hAC
  have c7 := hx1.t0
  have c8 := hx1.t1
  have c9 := hx1.t2
  have f7 := hx1.ft 0
  have f8 := hx1.ft 1
  have f9 := hx1.ft 2
  have hv1 := set_tk hx1 t hHC hM (HA2.out.step hg hB1) hT1
  have HX3 := Lib.hid hv1.1
  have HG3 := Lib.hid ((HG2.out.trans (LnK.box (N := Z.n) hg HA2.out.hi)).trans (hv1.2.1 A Z.n))
  have HA3 := Lib.hid hv1.2.2.1
  have HT3 := Lib.hid hv1.2.2.2
  rw [show tkV t = .agg #[.int .i64 (t.k : Int), .string ⟨t.s.toArray⟩, .int .i64 t.n] from rfl]
  clear hx1 hv1
  clear hg hE hB1 hT1 hr HC HR2 HG2 HA2 HT2 HX2
  have HC := Lib.hid (want_any A M ln _ 4 4 rfl l3 (((w3.setCell ⟨C + 1, 0, none⟩ (.int .i64 (t.k : Int))).setCell ⟨C + 1, 1, none⟩ (.string ⟨t.s.toArray⟩)).setCell ⟨C + 1, 2, none⟩ (.int .i64 t.n)) HA3.out.box HT3.out)
  go_wp2_with fail
  clear c7 c8 c9 f7 f8 f9
  (with_reducible refine HC.out.mono ?_)
  rintro x w4 ⟨hg, h⟩
  have hr := HR3.out
  rcases hE : Pl.wantP 4 l3 with e | ⟨t3, l4⟩
  · rw [hE] at h hr
    obtain rfl := h
    subst hr
    exact ⟨rfl, HG3.out.trans (LnK.box hg HA3.out.hi), rfl⟩
  rw [hE] at h hr
  obtain ⟨rfl, v, hB1, hT1⟩ := h
  have HR4 : Hid ((do let (b, l) ← Pl.regP l4; let (_, l) ← Pl.wantP 5 l; Pl.endP l; Pl.finI ln op S (⟨op, a, b, 0, 0⟩, t)) = R) := Lib.hid hr
  have HX4 := Lib.hid (HX3.out.kept hg hAC)
  have HG4 := Lib.hid (HG3.out.trans (LnK.box (N := Z.n) hg HA3.out.hi))
  have HA4 := Lib.hid (HA3.out.step hg hB1)
  have HT4 := Lib.hid hT1
  rw [show tkV t3 = .agg #[.int .i64 (t3.k : Int), .string ⟨t3.s.toArray⟩, .int .i64 t3.n] from rfl]
  clear hg hE hB1 hT1 hr HC HR3 HG3 HA3 HT3 HX3
  have HC := Lib.hid (register_any A M ln _ l4 w4 HA4.out.box HT4.out)
  go_wp2_with fail
  (with_reducible refine HC.out.mono ?_)
  rintro x w5 ⟨hg, h⟩
  have hr := HR4.out
  rcases hE : Pl.regP l4 with e | ⟨b, l5⟩
  · rw [hE] at h hr
    obtain rfl := h
    subst hr
    exact ⟨rfl, HG4.out.trans (LnK.box hg HA4.out.hi), rfl⟩
  rw [hE] at h hr
  obtain ⟨rfl, hb16, v, hB1, hT1⟩ := h
  have HR5 : Hid ((do let (_, l) ← Pl.wantP 5 l5; Pl.endP l; Pl.finI ln op S (⟨op, a, b, 0, 0⟩, t)) = R) := Lib.hid hr
  have hx1 := HX4.out.kept hg hAC
  have c9 := hx1.x2
  have f9 := hx1.fx 2
  have HX5 : Hid (XT (w5.setCell ⟨C, 2, none⟩ (.int .u8 (b : Int))) C ⟨op, a, b, 0, 0⟩ t) := Lib.hid (hx1.set2 b)
  have HG5 := Lib.hid ((HG4.out.trans (LnK.box (N := Z.n) hg HA4.out.hi)).trans (LnK.low ((Below.refl C w5).setCell (p := ⟨C, 2, none⟩) (Nat.le_refl _) (.int .u8 (b : Int))) hHC))
  have HA5 := Lib.hid ((HA4.out.step hg hB1).typed (grown_cell w5 C 2 (.int .u8 (b : Int))) hx1.1 (by decide) (by decide) (by decide) (by decide))
  have HT5 := Lib.hid (hT1.keep ((Below.refl C w5).setCell (p := ⟨C, 2, none⟩) (Nat.le_refl _) (.int .u8 (b : Int))) hM)
  clear hx1
  clear hg hE hB1 hT1 hr HC HR4 HG4 HA4 HT4 HX4
  have HC := Lib.hid (want_any A M ln _ 5 5 rfl l5 (w5.setCell ⟨C, 2, none⟩ (.int .u8 (b : Int))) HA5.out.box HT5.out)
  go_wp2_with fail
  clear c9 f9
  (with_reducible refine HC.out.mono ?_)
  rintro x w6 ⟨hg, h⟩
  have hr := HR5.out
  rcases hE : Pl.wantP 5 l5 with e | ⟨t5, l6⟩
  · rw [hE] at h hr
    obtain rfl := h
    subst hr
    exact ⟨rfl, HG5.out.trans (LnK.box hg HA5.out.hi), rfl⟩
  rw [hE] at h hr
  obtain ⟨rfl, v, hB1, hT1⟩ := h
  have HR6 : Hid ((do Pl.endP l6; Pl.finI ln op S (⟨op, a, b, 0, 0⟩, t)) = R) := Lib.hid hr
  have HX6 := Lib.hid (HX5.out.kept hg hAC)
  have HG6 := Lib.hid (HG5.out.trans (LnK.box (N := Z.n) hg HA5.out.hi))
  have HA6 := Lib.hid (HA5.out.step hg hB1)
  have HT6 := Lib.hid hT1
  rw [show tkV t5 = .agg #[.int .i64 (t5.k : Int), .string ⟨t5.s.toArray⟩, .int .i64 t5.n] from rfl]
  clear hg hE hB1 hT1 hr HC HR5 HG5 HA5 HT5 HX5
  have HC := Lib.hid (end_any A M ln _ l6 w6 HA6.out.box HT6.out)
  go_wp2_with fail
  (with_reducible refine HC.out.mono ?_)
  rintro x wz ⟨rfl, h⟩
  have hr := HR6.out
  rcases hE : Pl.endP l6 with e | u
  · rw [hE] at h hr
    obtain rfl := h
    subst hr
    exact ⟨rfl, HG6.out, rfl⟩
  rw [hE] at h hr
  obtain rfl := h
  have HRf : Hid (Pl.finI ln op S (⟨op, a, b, 0, 0⟩, t) = R) := Lib.hid hr
  obtain ⟨W1, hW1⟩ : ∃ W1, wz = W1 := ⟨_, rfl⟩
  rw [hW1] at HG6 HA6 HX6 ⊢
  clear hr hE HC HT6 HR6 hW1
  have d0 := HX6.out.x0
  have d1 := HX6.out.x1
  have d2 := HX6.out.x2
  have d3 := HX6.out.x3
  have d4 := HX6.out.x4
  have g0 := HX6.out.t0
  have g1 := HX6.out.t1
  have g2 := HX6.out.t2
  have hWs := HX6.out.size
  by_cases htk : t.k = 0
  · have e0 : ((t.k : Int) == 0) = true := by simp; omega
    have HC := Lib.hid (add_any H A ln S _ Y ⟨0, ⟨op, a, b, 0, 0⟩, false, 0, true, t.s, 0⟩ W1 HA6.out (by omega))
    have HR1 : Hid (Except.ok (Pl.addP (Pl.pcN ln ⟨op, a, b, 0, 0⟩ t.s 0) S) = R) := Lib.hid (by rw [← HRf.out]; unfold Pl.finI; rw [if_pos htk]; rw [if_neg (by omega)])
    go_wp2_with fail
    refine HC.out.mono ?_
    rintro x wp ⟨hk, rfl, Z1, z1, z2, z3, hA1⟩
    have HB := Lib.hid (And.intro hk (And.intro z1 (And.intro z2 (And.intro z3 hA1))))
    clear hk z1 z2 z3 hA1 HC d0 d1 d2 d3 d4 g0 g1 g2
    go_wp2_with fail
    refine bodyPost_ret (v := .tuple #[]) (results_none rfl _ _ _) rfl ?_
    rw [← HR1.out]
    exact ⟨HG6.out.trans HB.out.1, rfl, Z1, HB.out.2.1, HB.out.2.2.1, HB.out.2.2.2.1, HB.out.2.2.2.2⟩
  · have e0 : (((t.k : Nat) : Int) == 0) = false := by simp; omega
    have HC := Lib.hid (fit_any A ln _ ⟨op, a, b, 0, 0⟩ t.n W1 HA6.out.box ⟨by show op < 256; omega, by show a < 256; omega, by show b < 256; omega, by show 0 < 256; omega⟩)
    have HR1 : Hid ((Pl.fitP ⟨op, a, b, 0, 0⟩ t.n >>= fun n => Except.ok (Pl.addP (Pl.pcI ln ⟨op, a, b, 0, n⟩) S)) = R) := Lib.hid (by rw [← HRf.out]; unfold Pl.finI; rw [if_neg htk])
    unfold insV at HC
    go_wp2_with fail
    refine HC.out.mono ?_
    rintro x w8 ⟨hb8, h⟩
    have hr := HR1.out
    have HX9 := Lib.hid (HX6.out.keep hb8)
    have HG9 := Lib.hid (HG6.out.trans (LnK.low (N := Z.n) (A := A) hb8 (Nat.le_trans hHC (Nat.le_of_lt HX6.out.lt))))
    have HA9 := Lib.hid (HA6.out.new hb8)
    rcases hF : Pl.fitP ⟨op, a, b, 0, 0⟩ t.n with e | n
    · rw [hF] at h hr
      obtain rfl := h
      subst hr
      exact ⟨rfl, HG9.out, rfl⟩
    rw [hF] at h hr
    obtain rfl := h
    have HR2 : Hid (Except.ok (Pl.addP (Pl.pcI ln ⟨op, a, b, 0, n⟩) S) = R) := Lib.hid hr
    clear hr hF hb8 HC HR1 d0 d1 d2 d3 d4 g0 g1 g2
    have d0 := HX9.out.x0
    have d1 := HX9.out.x1
    have d2 := HX9.out.x2
    have d3 := HX9.out.x3
    have d4 := HX9.out.x4
    have f4 := HX9.out.fx 4
    have hs9 := HX9.out.size
    go_upto_region 27 with (fail)
    have hx2 := HX9.out.set4 n
    have HG2 := Lib.hid (HG9.out.trans (LnK.low (N := Z.n) (A := A) ((Below.refl C w8).setCell (p := ⟨C, 4, none⟩) (Nat.le_refl _) (.int .i32 n)) hHC))
    have HA2 := Lib.hid (HA9.out.typed (grown_cell w8 C 4 (.int .i32 n)) HX9.out.1 (by decide) (by decide) (by decide) (by decide))
    obtain ⟨W2, hW2⟩ : ∃ W2, w8.setCell ⟨C, 4, none⟩ (.int .i32 n) = W2 := ⟨_, rfl⟩
    rw [hW2] at hx2 HG2 HA2 ⊢
    clear d0 d1 d2 d3 d4 f4 hW2
    have d0 := hx2.x0
    have d1 := hx2.x1
    have d2 := hx2.x2
    have d3 := hx2.x3
    have d4 := hx2.x4
    clear hx2
    have HC := Lib.hid (add_any H A ln S _ Y ⟨0, ⟨op, a, b, 0, n⟩, false, 0, false, [], 0⟩ W2 HA2.out (by omega))
    go_wp2_with fail
    refine HC.out.mono ?_
    rintro x wp ⟨hk, rfl, Z1, z1, z2, z3, hA1⟩
    have HB := Lib.hid (And.intro hk (And.intro z1 (And.intro z2 (And.intro z3 hA1))))
    clear hk z1 z2 z3 hA1 HC d0 d1 d2 d3 d4
    go_wp2_with fail
    refine bodyPost_end (results_none rfl _ _ _) rfl ?_
    rw [← HR2.out]
    exact ⟨HG2.out.trans HB.out.1, rfl, Z1, HB.out.2.1, HB.out.2.2.1, HB.out.2.2.2.1, HB.out.2.2.2.2⟩
set_option maxRecDepth 100000 in
set_option maxHeartbeats 2000000 in
theorem ins_c7 (H A M ln op : Nat) (S : Pl.St) (Z : AsV) (Y : List (List UInt8 × Value)) (l : List Pl.Tk) (w : World) (hA : AsAt w H A ln S Z Y) (hT : TkAt w A M Z.r l) (hM : M ≤ w.heap.size) (hN : S.pcs.length ≤ 900000) (h1 : 30 ≤ op) (h2 : op ≤ 30) :
    Calls Tryz.prog 68 #[.pointer (some ⟨A, 0, none⟩), .int .u8 (op : Int)] w (LnQ w H A ln Z Y (Pl.insP ln op l S)) := by
  have e31 : ((op : Int) != 31) = true := by simp; omega
  have e30 : ((op : Int) == 30) = true := by simp; omega
  obtain ⟨R, hR⟩ : ∃ R, Pl.insP ln op l S = R := ⟨_, rfl⟩
  rw [hR]
  rw [Pl.insP_4 ln op l S (.inr (by omega))] at hR
  have HR0 : Hid ((do let (a, l) ← Pl.regP l; let (_, l) ← Pl.wantP 2 l; let (t, l) ← Pl.valP l; let (_, l) ← Pl.wantP 4 l; let (b, l) ← Pl.regP l; let (_, l) ← Pl.wantP 5 l; Pl.endP l; Pl.finI ln op S (⟨op, a, b, 0, 0⟩, t)) = R) := Lib.hid hR
  have HH := Lib.hid (And.intro hA hT)
  obtain ⟨C, hC⟩ : ∃ C, w.heap.size = C := ⟨_, rfl⟩
  have hAC : A < C := by rw [← hC]; exact hA.box.lt
  have hHC : H ≤ C := by rw [← hC]; exact hA.hi
  clear hR hA hT
  go_enter Tryz.func68, Tryz.ntmps68
  go_upto_region 2 with (fail)
  obtain ⟨W, hW⟩ : ∃ W, (w.alloc (.cells #[.int .u8 (op : Int), .int .u8 0, .int .u8 0, .int .u8 0, .int .i32 0] 33)).alloc (.cells #[.int .i64 0, .string ⟨#[]⟩, .int .i64 0] 115) = W := ⟨_, rfl⟩
  have hst := ins_start HH.out.1 HH.out.2 hM hC hW
  have HA0 := Lib.hid hst.1
  have HT0 := Lib.hid hst.2.1
  have HG0 := Lib.hid hst.2.2.1
  have HX0 : Hid (XT W C ⟨op, 0, 0, 0, 0⟩ ⟨0, [], 0⟩) := Lib.hid hst.2.2.2
  rw [hC] at hM
  rw [hW]
  clear hst hW hC
  have HC := Lib.hid (register_any A M ln _ l W HA0.out.box HT0.out)
  go_wp2_with fail
  (with_reducible refine HC.out.mono ?_)
  rintro x w1 ⟨hg, h⟩
  have hr := HR0.out
  rcases hE : Pl.regP l with e | ⟨a, l1⟩
  · rw [hE] at h hr
    obtain rfl := h
    subst hr
    exact ⟨rfl, HG0.out.trans (LnK.box hg HA0.out.hi), rfl⟩
  rw [hE] at h hr
  obtain ⟨rfl, ha16, v, hB1, hT1⟩ := h
  have HR1 : Hid ((do let (_, l) ← Pl.wantP 2 l1; let (t, l) ← Pl.valP l; let (_, l) ← Pl.wantP 4 l; let (b, l) ← Pl.regP l; let (_, l) ← Pl.wantP 5 l; Pl.endP l; Pl.finI ln op S (⟨op, a, b, 0, 0⟩, t)) = R) := Lib.hid hr
  have hx1 := HX0.out.kept hg hAC
  have c9 := hx1.x1
  have f9 := hx1.fx 1
  have HX1 : Hid (XT (w1.setCell ⟨C, 1, none⟩ (.int .u8 (a : Int))) C ⟨op, a, 0, 0, 0⟩ ⟨0, [], 0⟩) := Lib.hid (hx1.set1 a)
  have HG1 := Lib.hid ((HG0.out.trans (LnK.box (N := Z.n) hg HA0.out.hi)).trans (LnK.low ((Below.refl C w1).setCell (p := ⟨C, 1, none⟩) (Nat.le_refl _) (.int .u8 (a : Int))) hHC))
  have HA1 := Lib.hid ((HA0.out.step hg hB1).typed (grown_cell w1 C 1 (.int .u8 (a : Int))) hx1.1 (by decide) (by decide) (by decide) (by decide))
  have HT1 := Lib.hid (hT1.keep ((Below.refl C w1).setCell (p := ⟨C, 1, none⟩) (Nat.le_refl _) (.int .u8 (a : Int))) hM)
  clear hx1
  clear hg hE hB1 hT1 hr HC HR0 HG0 HA0 HT0 HX0
  have HC := Lib.hid (want_any A M ln _ 2 2 rfl l1 (w1.setCell ⟨C, 1, none⟩ (.int .u8 (a : Int))) HA1.out.box HT1.out)
  go_wp2_with fail
  clear c9 f9
  (with_reducible refine HC.out.mono ?_)
  rintro x w2 ⟨hg, h⟩
  have hr := HR1.out
  rcases hE : Pl.wantP 2 l1 with e | ⟨t1, l2⟩
  · rw [hE] at h hr
    obtain rfl := h
    subst hr
    exact ⟨rfl, HG1.out.trans (LnK.box hg HA1.out.hi), rfl⟩
  rw [hE] at h hr
  obtain ⟨rfl, v, hB1, hT1⟩ := h
  have HR2 : Hid ((do let (t, l) ← Pl.valP l2; let (_, l) ← Pl.wantP 4 l; let (b, l) ← Pl.regP l; let (_, l) ← Pl.wantP 5 l; Pl.endP l; Pl.finI ln op S (⟨op, a, b, 0, 0⟩, t)) = R) := Lib.hid hr
  have HX2 := Lib.hid (HX1.out.kept hg hAC)
  have HG2 := Lib.hid (HG1.out.trans (LnK.box (N := Z.n) hg HA1.out.hi))
  have HA2 := Lib.hid (HA1.out.step hg hB1)
  have HT2 := Lib.hid hT1
  rw [show tkV t1 = .agg #[.int .i64 (t1.k : Int), .string ⟨t1.s.toArray⟩, .int .i64 t1.n] from rfl]
  clear hg hE hB1 hT1 hr HC HR1 HG1 HA1 HT1 HX1
  have HC := Lib.hid (value_any A M ln _ l2 w2 HA2.out.box HT2.out (Nat.le_trans hM HX2.out.size))
  go_wp2_with fail
  (with_reducible refine HC.out.mono ?_)
  rintro x w3 ⟨hg, h⟩
  have hr := HR2.out
  rcases hE : Pl.valP l2 with e | ⟨t, l3⟩
  · rw [hE] at h hr
    obtain rfl := h
    subst hr
    exact ⟨rfl, HG2.out.trans (LnK.box hg HA2.out.hi), rfl⟩
  rw [hE] at h hr
  obtain ⟨rfl, v, hB1, hT1⟩ := h
  have HR3 : Hid ((do let (_, l) ← Pl.wantP 4 l3; let (b, l) ← Pl.regP l; let (_, l) ← Pl.wantP 5 l; Pl.endP l; Pl.finI ln op S (⟨op, a, b, 0, 0⟩, t)) = R) := Lib.hid hr
  have hx1 := HX2.out.kept hg hAC
  have c7 := hx1.t0
  have c8 := hx1.t1
  have c9 := hx1.t2
  have f7 := hx1.ft 0
  have f8 := hx1.ft 1
  have f9 := hx1.ft 2
  have hv1 := set_tk hx1 t hHC hM (HA2.out.step hg hB1) hT1
  have HX3 := Lib.hid hv1.1
  have HG3 := Lib.hid ((HG2.out.trans (LnK.box (N := Z.n) hg HA2.out.hi)).trans (hv1.2.1 A Z.n))
  have HA3 := Lib.hid hv1.2.2.1
  have HT3 := Lib.hid hv1.2.2.2
  rw [show tkV t = .agg #[.int .i64 (t.k : Int), .string ⟨t.s.toArray⟩, .int .i64 t.n] from rfl]
  clear hx1 hv1
  clear hg hE hB1 hT1 hr HC HR2 HG2 HA2 HT2 HX2
  have HC := Lib.hid (want_any A M ln _ 4 4 rfl l3 (((w3.setCell ⟨C + 1, 0, none⟩ (.int .i64 (t.k : Int))).setCell ⟨C + 1, 1, none⟩ (.string ⟨t.s.toArray⟩)).setCell ⟨C + 1, 2, none⟩ (.int .i64 t.n)) HA3.out.box HT3.out)
  go_wp2_with fail
  clear c7 c8 c9 f7 f8 f9
  (with_reducible refine HC.out.mono ?_)
  rintro x w4 ⟨hg, h⟩
  have hr := HR3.out
  rcases hE : Pl.wantP 4 l3 with e | ⟨t3, l4⟩
  · rw [hE] at h hr
    obtain rfl := h
    subst hr
    exact ⟨rfl, HG3.out.trans (LnK.box hg HA3.out.hi), rfl⟩
  rw [hE] at h hr
  obtain ⟨rfl, v, hB1, hT1⟩ := h
  have HR4 : Hid ((do let (b, l) ← Pl.regP l4; let (_, l) ← Pl.wantP 5 l; Pl.endP l; Pl.finI ln op S (⟨op, a, b, 0, 0⟩, t)) = R) := Lib.hid hr
  have HX4 := Lib.hid (HX3.out.kept hg hAC)
  have HG4 := Lib.hid (HG3.out.trans (LnK.box (N := Z.n) hg HA3.out.hi))
  have HA4 := Lib.hid (HA3.out.step hg hB1)
  have HT4 := Lib.hid hT1
  rw [show tkV t3 = .agg #[.int .i64 (t3.k : Int), .string ⟨t3.s.toArray⟩, .int .i64 t3.n] from rfl]
  clear hg hE hB1 hT1 hr HC HR3 HG3 HA3 HT3 HX3
  have HC := Lib.hid (register_any A M ln _ l4 w4 HA4.out.box HT4.out)
  go_wp2_with fail
  (with_reducible refine HC.out.mono ?_)
  rintro x w5 ⟨hg, h⟩
  have hr := HR4.out
  rcases hE : Pl.regP l4 with e | ⟨b, l5⟩
  · rw [hE] at h hr
    obtain rfl := h
    subst hr
    exact ⟨rfl, HG4.out.trans (LnK.box hg HA4.out.hi), rfl⟩
  rw [hE] at h hr
  obtain ⟨rfl, hb16, v, hB1, hT1⟩ := h
  have HR5 : Hid ((do let (_, l) ← Pl.wantP 5 l5; Pl.endP l; Pl.finI ln op S (⟨op, a, b, 0, 0⟩, t)) = R) := Lib.hid hr
  have hx1 := HX4.out.kept hg hAC
  have c9 := hx1.x2
  have f9 := hx1.fx 2
  have HX5 : Hid (XT (w5.setCell ⟨C, 2, none⟩ (.int .u8 (b : Int))) C ⟨op, a, b, 0, 0⟩ t) := Lib.hid (hx1.set2 b)
  have HG5 := Lib.hid ((HG4.out.trans (LnK.box (N := Z.n) hg HA4.out.hi)).trans (LnK.low ((Below.refl C w5).setCell (p := ⟨C, 2, none⟩) (Nat.le_refl _) (.int .u8 (b : Int))) hHC))
  have HA5 := Lib.hid ((HA4.out.step hg hB1).typed (grown_cell w5 C 2 (.int .u8 (b : Int))) hx1.1 (by decide) (by decide) (by decide) (by decide))
  have HT5 := Lib.hid (hT1.keep ((Below.refl C w5).setCell (p := ⟨C, 2, none⟩) (Nat.le_refl _) (.int .u8 (b : Int))) hM)
  clear hx1
  clear hg hE hB1 hT1 hr HC HR4 HG4 HA4 HT4 HX4
  have HC := Lib.hid (want_any A M ln _ 5 5 rfl l5 (w5.setCell ⟨C, 2, none⟩ (.int .u8 (b : Int))) HA5.out.box HT5.out)
  go_wp2_with fail
  clear c9 f9
  (with_reducible refine HC.out.mono ?_)
  rintro x w6 ⟨hg, h⟩
  have hr := HR5.out
  rcases hE : Pl.wantP 5 l5 with e | ⟨t5, l6⟩
  · rw [hE] at h hr
    obtain rfl := h
    subst hr
    exact ⟨rfl, HG5.out.trans (LnK.box hg HA5.out.hi), rfl⟩
  rw [hE] at h hr
  obtain ⟨rfl, v, hB1, hT1⟩ := h
  have HR6 : Hid ((do Pl.endP l6; Pl.finI ln op S (⟨op, a, b, 0, 0⟩, t)) = R) := Lib.hid hr
  have HX6 := Lib.hid (HX5.out.kept hg hAC)
  have HG6 := Lib.hid (HG5.out.trans (LnK.box (N := Z.n) hg HA5.out.hi))
  have HA6 := Lib.hid (HA5.out.step hg hB1)
  have HT6 := Lib.hid hT1
  rw [show tkV t5 = .agg #[.int .i64 (t5.k : Int), .string ⟨t5.s.toArray⟩, .int .i64 t5.n] from rfl]
  clear hg hE hB1 hT1 hr HC HR5 HG5 HA5 HT5 HX5
  have HC := Lib.hid (end_any A M ln _ l6 w6 HA6.out.box HT6.out)
  go_wp2_with fail
  (with_reducible refine HC.out.mono ?_)
  rintro x wz ⟨rfl, h⟩
  have hr := HR6.out
  rcases hE : Pl.endP l6 with e | u
  · rw [hE] at h hr
    obtain rfl := h
    subst hr
    exact ⟨rfl, HG6.out, rfl⟩
  rw [hE] at h hr
  obtain rfl := h
  have HRf : Hid (Pl.finI ln op S (⟨op, a, b, 0, 0⟩, t) = R) := Lib.hid hr
  obtain ⟨W1, hW1⟩ : ∃ W1, wz = W1 := ⟨_, rfl⟩
  rw [hW1] at HG6 HA6 HX6 ⊢
  clear hr hE HC HT6 HR6 hW1
  have d0 := HX6.out.x0
  have d1 := HX6.out.x1
  have d2 := HX6.out.x2
  have d3 := HX6.out.x3
  have d4 := HX6.out.x4
  have g0 := HX6.out.t0
  have g1 := HX6.out.t1
  have g2 := HX6.out.t2
  have hWs := HX6.out.size
  by_cases htk : t.k = 0
  · have e0 : ((t.k : Int) == 0) = true := by simp; omega
    have HC := Lib.hid (add_any H A ln S _ Y ⟨0, ⟨op, a, b, 0, 0⟩, false, 0, true, t.s, 0⟩ W1 HA6.out (by omega))
    have HR1 : Hid (Except.ok (Pl.addP (Pl.pcN ln ⟨op, a, b, 0, 0⟩ t.s 0) S) = R) := Lib.hid (by rw [← HRf.out]; unfold Pl.finI; rw [if_pos htk]; rw [if_neg (by omega)])
    go_wp2_with fail
    refine HC.out.mono ?_
    rintro x wp ⟨hk, rfl, Z1, z1, z2, z3, hA1⟩
    have HB := Lib.hid (And.intro hk (And.intro z1 (And.intro z2 (And.intro z3 hA1))))
    clear hk z1 z2 z3 hA1 HC d0 d1 d2 d3 d4 g0 g1 g2
    go_wp2_with fail
    refine bodyPost_ret (v := .tuple #[]) (results_none rfl _ _ _) rfl ?_
    rw [← HR1.out]
    exact ⟨HG6.out.trans HB.out.1, rfl, Z1, HB.out.2.1, HB.out.2.2.1, HB.out.2.2.2.1, HB.out.2.2.2.2⟩
  · have e0 : (((t.k : Nat) : Int) == 0) = false := by simp; omega
    have HC := Lib.hid (fit_any A ln _ ⟨op, a, b, 0, 0⟩ t.n W1 HA6.out.box ⟨by show op < 256; omega, by show a < 256; omega, by show b < 256; omega, by show 0 < 256; omega⟩)
    have HR1 : Hid ((Pl.fitP ⟨op, a, b, 0, 0⟩ t.n >>= fun n => Except.ok (Pl.addP (Pl.pcI ln ⟨op, a, b, 0, n⟩) S)) = R) := Lib.hid (by rw [← HRf.out]; unfold Pl.finI; rw [if_neg htk])
    unfold insV at HC
    go_wp2_with fail
    refine HC.out.mono ?_
    rintro x w8 ⟨hb8, h⟩
    have hr := HR1.out
    have HX9 := Lib.hid (HX6.out.keep hb8)
    have HG9 := Lib.hid (HG6.out.trans (LnK.low (N := Z.n) (A := A) hb8 (Nat.le_trans hHC (Nat.le_of_lt HX6.out.lt))))
    have HA9 := Lib.hid (HA6.out.new hb8)
    rcases hF : Pl.fitP ⟨op, a, b, 0, 0⟩ t.n with e | n
    · rw [hF] at h hr
      obtain rfl := h
      subst hr
      exact ⟨rfl, HG9.out, rfl⟩
    rw [hF] at h hr
    obtain rfl := h
    have HR2 : Hid (Except.ok (Pl.addP (Pl.pcI ln ⟨op, a, b, 0, n⟩) S) = R) := Lib.hid hr
    clear hr hF hb8 HC HR1 d0 d1 d2 d3 d4 g0 g1 g2
    have d0 := HX9.out.x0
    have d1 := HX9.out.x1
    have d2 := HX9.out.x2
    have d3 := HX9.out.x3
    have d4 := HX9.out.x4
    have f4 := HX9.out.fx 4
    have hs9 := HX9.out.size
    go_upto_region 27 with (fail)
    have hx2 := HX9.out.set4 n
    have HG2 := Lib.hid (HG9.out.trans (LnK.low (N := Z.n) (A := A) ((Below.refl C w8).setCell (p := ⟨C, 4, none⟩) (Nat.le_refl _) (.int .i32 n)) hHC))
    have HA2 := Lib.hid (HA9.out.typed (grown_cell w8 C 4 (.int .i32 n)) HX9.out.1 (by decide) (by decide) (by decide) (by decide))
    obtain ⟨W2, hW2⟩ : ∃ W2, w8.setCell ⟨C, 4, none⟩ (.int .i32 n) = W2 := ⟨_, rfl⟩
    rw [hW2] at hx2 HG2 HA2 ⊢
    clear d0 d1 d2 d3 d4 f4 hW2
    have d0 := hx2.x0
    have d1 := hx2.x1
    have d2 := hx2.x2
    have d3 := hx2.x3
    have d4 := hx2.x4
    clear hx2
    have HC := Lib.hid (add_any H A ln S _ Y ⟨0, ⟨op, a, b, 0, n⟩, false, 0, false, [], 0⟩ W2 HA2.out (by omega))
    go_wp2_with fail
    refine HC.out.mono ?_
    rintro x wp ⟨hk, rfl, Z1, z1, z2, z3, hA1⟩
    have HB := Lib.hid (And.intro hk (And.intro z1 (And.intro z2 (And.intro z3 hA1))))
    clear hk z1 z2 z3 hA1 HC d0 d1 d2 d3 d4
    go_wp2_with fail
    refine bodyPost_end (results_none rfl _ _ _) rfl ?_
    rw [← HR2.out]
    exact ⟨HG2.out.trans HB.out.1, rfl, Z1, HB.out.2.1, HB.out.2.2.1, HB.out.2.2.2.1, HB.out.2.2.2.2⟩
set_option maxRecDepth 100000 in
set_option maxHeartbeats 2000000 in
theorem ins_c8 (H A M ln op : Nat) (S : Pl.St) (Z : AsV) (Y : List (List UInt8 × Value)) (l : List Pl.Tk) (w : World) (hA : AsAt w H A ln S Z Y) (hT : TkAt w A M Z.r l) (hM : M ≤ w.heap.size) (hN : S.pcs.length ≤ 900000) (h1 : 31 ≤ op) (h2 : op ≤ 31) :
    Calls Tryz.prog 68 #[.pointer (some ⟨A, 0, none⟩), .int .u8 (op : Int)] w (LnQ w H A ln Z Y (Pl.insP ln op l S)) := by
  have e31 : ((op : Int) != 31) = false := by simp; omega
  have e19 : ((op : Int) == 19) = false := by simp; omega
  have e29 : ((op : Int) == 29) = false := by simp; omega
  have e30 : ((op : Int) == 30) = false := by simp; omega
  have e31b : ((op : Int) == 31) = true := by simp; omega
  obtain ⟨R, hR⟩ : ∃ R, Pl.insP ln op l S = R := ⟨_, rfl⟩
  rw [hR]
  rw [Pl.insP_5 ln op l S (by omega)] at hR
  have HR0 : Hid ((do let (t, l) ← Pl.valP l; Pl.endP l; Pl.finI ln op S (⟨op, 0, 0, 0, 0⟩, t)) = R) := Lib.hid hR
  have HH := Lib.hid (And.intro hA hT)
  obtain ⟨C, hC⟩ : ∃ C, w.heap.size = C := ⟨_, rfl⟩
  have hAC : A < C := by rw [← hC]; exact hA.box.lt
  have hHC : H ≤ C := by rw [← hC]; exact hA.hi
  clear hR hA hT
  go_enter Tryz.func68, Tryz.ntmps68
  go_upto_region 2 with (fail)
  obtain ⟨W, hW⟩ : ∃ W, (w.alloc (.cells #[.int .u8 (op : Int), .int .u8 0, .int .u8 0, .int .u8 0, .int .i32 0] 33)).alloc (.cells #[.int .i64 0, .string ⟨#[]⟩, .int .i64 0] 115) = W := ⟨_, rfl⟩
  have hst := ins_start HH.out.1 HH.out.2 hM hC hW
  have HA0 := Lib.hid hst.1
  have HT0 := Lib.hid hst.2.1
  have HG0 := Lib.hid hst.2.2.1
  have HX0 : Hid (XT W C ⟨op, 0, 0, 0, 0⟩ ⟨0, [], 0⟩) := Lib.hid hst.2.2.2
  rw [hC] at hM
  rw [hW]
  clear hst hW hC
  have HC := Lib.hid (value_any A M ln _ l W HA0.out.box HT0.out (Nat.le_trans hM HX0.out.size))
  go_wp2_with fail
  (with_reducible refine HC.out.mono ?_)
  rintro x w1 ⟨hg, h⟩
  have hr := HR0.out
  rcases hE : Pl.valP l with e | ⟨t, l1⟩
  · rw [hE] at h hr
    obtain rfl := h
    subst hr
    exact ⟨rfl, HG0.out.trans (LnK.box hg HA0.out.hi), rfl⟩
  rw [hE] at h hr
  obtain ⟨rfl, v, hB1, hT1⟩ := h
  have HR1 : Hid ((do Pl.endP l1; Pl.finI ln op S (⟨op, 0, 0, 0, 0⟩, t)) = R) := Lib.hid hr
  have hx1 := HX0.out.kept hg hAC
  have c7 := hx1.t0
  have c8 := hx1.t1
  have c9 := hx1.t2
  have f7 := hx1.ft 0
  have f8 := hx1.ft 1
  have f9 := hx1.ft 2
  have hv1 := set_tk hx1 t hHC hM (HA0.out.step hg hB1) hT1
  have HX1 := Lib.hid hv1.1
  have HG1 := Lib.hid ((HG0.out.trans (LnK.box (N := Z.n) hg HA0.out.hi)).trans (hv1.2.1 A Z.n))
  have HA1 := Lib.hid hv1.2.2.1
  have HT1 := Lib.hid hv1.2.2.2
  rw [show tkV t = .agg #[.int .i64 (t.k : Int), .string ⟨t.s.toArray⟩, .int .i64 t.n] from rfl]
  clear hx1 hv1
  clear hg hE hB1 hT1 hr HC HR0 HG0 HA0 HT0 HX0
  have HC := Lib.hid (end_any A M ln _ l1 (((w1.setCell ⟨C + 1, 0, none⟩ (.int .i64 (t.k : Int))).setCell ⟨C + 1, 1, none⟩ (.string ⟨t.s.toArray⟩)).setCell ⟨C + 1, 2, none⟩ (.int .i64 t.n)) HA1.out.box HT1.out)
  go_wp2_with fail
  clear c7 c8 c9 f7 f8 f9
  (with_reducible refine HC.out.mono ?_)
  rintro x wz ⟨rfl, h⟩
  have hr := HR1.out
  rcases hE : Pl.endP l1 with e | u
  · rw [hE] at h hr
    obtain rfl := h
    subst hr
    exact ⟨rfl, HG1.out, rfl⟩
  rw [hE] at h hr
  obtain rfl := h
  have HRf : Hid (Pl.finI ln op S (⟨op, 0, 0, 0, 0⟩, t) = R) := Lib.hid hr
  obtain ⟨W1, hW1⟩ : ∃ W1, (((w1.setCell ⟨C + 1, 0, none⟩ (.int .i64 (t.k : Int))).setCell ⟨C + 1, 1, none⟩ (.string ⟨t.s.toArray⟩)).setCell ⟨C + 1, 2, none⟩ (.int .i64 t.n)) = W1 := ⟨_, rfl⟩
  rw [hW1] at HG1 HA1 HX1 ⊢
  clear hr hE HC HT1 HR1 hW1
  have d0 := HX1.out.x0
  have d1 := HX1.out.x1
  have d2 := HX1.out.x2
  have d3 := HX1.out.x3
  have d4 := HX1.out.x4
  have g0 := HX1.out.t0
  have g1 := HX1.out.t1
  have g2 := HX1.out.t2
  have hWs := HX1.out.size
  by_cases htk : t.k = 0
  · have e0 : ((t.k : Int) == 0) = true := by simp; omega
    have HC := Lib.hid (add_any H A ln S _ Y ⟨0, ⟨op, 0, 0, 0, 0⟩, false, 0, true, t.s, 0⟩ W1 HA1.out (by omega))
    have HR1 : Hid (Except.ok (Pl.addP (Pl.pcN ln ⟨op, 0, 0, 0, 0⟩ t.s 0) S) = R) := Lib.hid (by rw [← HRf.out]; unfold Pl.finI; rw [if_pos htk]; rw [if_neg (by omega)])
    go_wp2_with fail
    refine HC.out.mono ?_
    rintro x wp ⟨hk, rfl, Z1, z1, z2, z3, hA1⟩
    have HB := Lib.hid (And.intro hk (And.intro z1 (And.intro z2 (And.intro z3 hA1))))
    clear hk z1 z2 z3 hA1 HC d0 d1 d2 d3 d4 g0 g1 g2
    go_wp2_with fail
    refine bodyPost_ret (v := .tuple #[]) (results_none rfl _ _ _) rfl ?_
    rw [← HR1.out]
    exact ⟨HG1.out.trans HB.out.1, rfl, Z1, HB.out.2.1, HB.out.2.2.1, HB.out.2.2.2.1, HB.out.2.2.2.2⟩
  · have e0 : (((t.k : Nat) : Int) == 0) = false := by simp; omega
    have HC := Lib.hid (fit_any A ln _ ⟨op, 0, 0, 0, 0⟩ t.n W1 HA1.out.box ⟨by show op < 256; omega, by show 0 < 256; omega, by show 0 < 256; omega, by show 0 < 256; omega⟩)
    have HR1 : Hid ((Pl.fitP ⟨op, 0, 0, 0, 0⟩ t.n >>= fun n => Except.ok (Pl.addP (Pl.pcI ln ⟨op, 0, 0, 0, n⟩) S)) = R) := Lib.hid (by rw [← HRf.out]; unfold Pl.finI; rw [if_neg htk])
    unfold insV at HC
    go_wp2_with fail
    refine HC.out.mono ?_
    rintro x w8 ⟨hb8, h⟩
    have hr := HR1.out
    have HX9 := Lib.hid (HX1.out.keep hb8)
    have HG9 := Lib.hid (HG1.out.trans (LnK.low (N := Z.n) (A := A) hb8 (Nat.le_trans hHC (Nat.le_of_lt HX1.out.lt))))
    have HA9 := Lib.hid (HA1.out.new hb8)
    rcases hF : Pl.fitP ⟨op, 0, 0, 0, 0⟩ t.n with e | n
    · rw [hF] at h hr
      obtain rfl := h
      subst hr
      exact ⟨rfl, HG9.out, rfl⟩
    rw [hF] at h hr
    obtain rfl := h
    have HR2 : Hid (Except.ok (Pl.addP (Pl.pcI ln ⟨op, 0, 0, 0, n⟩) S) = R) := Lib.hid hr
    clear hr hF hb8 HC HR1 d0 d1 d2 d3 d4 g0 g1 g2
    have d0 := HX9.out.x0
    have d1 := HX9.out.x1
    have d2 := HX9.out.x2
    have d3 := HX9.out.x3
    have d4 := HX9.out.x4
    have f4 := HX9.out.fx 4
    have hs9 := HX9.out.size
    go_upto_region 27 with (fail)
    have hx2 := HX9.out.set4 n
    have HG2 := Lib.hid (HG9.out.trans (LnK.low (N := Z.n) (A := A) ((Below.refl C w8).setCell (p := ⟨C, 4, none⟩) (Nat.le_refl _) (.int .i32 n)) hHC))
    have HA2 := Lib.hid (HA9.out.typed (grown_cell w8 C 4 (.int .i32 n)) HX9.out.1 (by decide) (by decide) (by decide) (by decide))
    obtain ⟨W2, hW2⟩ : ∃ W2, w8.setCell ⟨C, 4, none⟩ (.int .i32 n) = W2 := ⟨_, rfl⟩
    rw [hW2] at hx2 HG2 HA2 ⊢
    clear d0 d1 d2 d3 d4 f4 hW2
    have d0 := hx2.x0
    have d1 := hx2.x1
    have d2 := hx2.x2
    have d3 := hx2.x3
    have d4 := hx2.x4
    clear hx2
    have HC := Lib.hid (add_any H A ln S _ Y ⟨0, ⟨op, 0, 0, 0, n⟩, false, 0, false, [], 0⟩ W2 HA2.out (by omega))
    go_wp2_with fail
    refine HC.out.mono ?_
    rintro x wp ⟨hk, rfl, Z1, z1, z2, z3, hA1⟩
    have HB := Lib.hid (And.intro hk (And.intro z1 (And.intro z2 (And.intro z3 hA1))))
    clear hk z1 z2 z3 hA1 HC d0 d1 d2 d3 d4
    go_wp2_with fail
    refine bodyPost_end (results_none rfl _ _ _) rfl ?_
    rw [← HR2.out]
    exact ⟨HG2.out.trans HB.out.1, rfl, Z1, HB.out.2.1, HB.out.2.2.1, HB.out.2.2.2.1, HB.out.2.2.2.2⟩
theorem instruction_any (H A M ln op : Nat) (S : Pl.St) (Z : AsV) (Y : List (List UInt8 × Value)) (l : List Pl.Tk) (w : World) (hA : AsAt w H A ln S Z Y) (hT : TkAt w A M Z.r l) (hM : M ≤ w.heap.size) (hN : S.pcs.length ≤ 900000) (h1 : 1 ≤ op) (h2 : op ≤ 31) :
    Calls Tryz.prog 68 #[.pointer (some ⟨A, 0, none⟩), .int .u8 (op : Int)] w (LnQ w H A ln Z Y (Pl.insP ln op l S)) := by
  rcases (show op ≤ 13 ∨ 14 ≤ op ∧ op ≤ 18 ∨ op = 19 ∨ 20 ≤ op ∧ op ≤ 24 ∨ 25 ≤ op ∧ op ≤ 28 ∨ op = 29 ∨ op = 30 ∨ op = 31 by omega) with h | ⟨h, h'⟩ | h | ⟨h, h'⟩ | ⟨h, h'⟩ | h | h | h
  · exact ins_c1 H A M ln op S Z Y l w hA hT hM hN h1 h
  · exact ins_c2 H A M ln op S Z Y l w hA hT hM hN h h'
  · exact ins_c4 H A M ln op S Z Y l w hA hT hM hN (by omega) (by omega)
  · exact ins_c6 H A M ln op S Z Y l w hA hT hM hN h h'
  · exact ins_c3 H A M ln op S Z Y l w hA hT hM hN h h'
  · exact ins_c5 H A M ln op S Z Y l w hA hT hM hN (by omega) (by omega)
  · exact ins_c7 H A M ln op S Z Y l w hA hT hM hN (by omega) (by omega)
  · exact ins_c8 H A M ln op S Z Y l w hA hT hM hN (by omega) (by omega)
end Go.Proofs.YtmmnkoeajdeldaaGreatDoor
