/- How a store of five shelves lies in memory; small facts on boxes of many cells. The walks of spread's small functions: mayName, mayPut, copied. The walk of spread's all: the five shelves are called, by a closure that is handed in. The walks of spread's putAll and its closure. The walk of spread's putAll. -/
import Derived.Test.YtdnebgilkfafhaaGreatDoorSpPl
import Derived.Test.YtdnebgilkfafhaaGreatDoorHashS
import Derived.Deep.MidRow
import Derived.Lib.LazyBuf
import Derived.Lib.EndianMore
import Derived.Deep.Upon
namespace Go.Proofs.YtdnebgilkfafhaaGreatDoor
open Go.RowKit
set_option linter.unusedVariables false
set_option linter.unusedSimpArgs false
/-- Where a shelf's two lists lie. -/
structure ShX where
  A : Option Addr
  c : Nat
  A' : Option Addr
  c' : Nat
def shC (s : Pl.Shelf) (x : ShX) : List Value := [.slice x.A s.objs.length x.c, .slice x.A' s.fates.length x.c']
def ShOk (w : World) (s : Pl.Shelf) (x : ShX) : Prop := SlAt w 4 x.A s.objs.length x.c (objCs s.objs) ∧ SlAt w 1 x.A' s.fates.length x.c' (ints s.fates)
theorem ShOk.below {w w' : World} {s : Pl.Shelf} {x : ShX} (h : ShOk w s x) (hb : Below w.heap.size w w') : ShOk w' s x := ⟨h.1.below hb, h.2.below hb⟩
/-- A store's shelves, as cells. -/
def stoC (S : Nat → Pl.Shelf) (X : Nat → ShX) : List Value := shC (S 0) (X 0) ++ (shC (S 1) (X 1) ++ (shC (S 2) (X 2) ++ (shC (S 3) (X 3) ++ shC (S 4) (X 4))))
/-- A store, as cells. -/
def stoL (S : Nat → Pl.Shelf) (X : Nat → ShX) (n : Int) : List Value := stoC S X ++ [.int .i64 n]
def StOk (w : World) (S : Nat → Pl.Shelf) (X : Nat → ShX) : Prop := ∀ i, i < 5 → ShOk w (S i) (X i)
theorem StOk.below {w w' : World} {S : Nat → Pl.Shelf} {X : Nat → ShX} (h : StOk w S X) (hb : Below w.heap.size w w') : StOk w' S X := fun i hi => (h i hi).below hb
def upd {α : Type} (f : Nat → α) (k : Nat) (v : α) : Nat → α := fun i => if i = k then v else f i
theorem upd_same {α : Type} (f : Nat → α) (k : Nat) (v : α) : upd f k v k = v := if_pos rfl
theorem upd_other {α : Type} (f : Nat → α) {k i : Nat} (v : α) (h : i ≠ k) : upd f k v i = f i := if_neg h
theorem stoC_len (S : Nat → Pl.Shelf) (X : Nat → ShX) : (stoC S X).length = 10 := rfl
theorem stoL_len5 (S : Nat → Pl.Shelf) (X : Nat → ShX) (n : Int) : (stoL S X n).length = 11 := rfl
theorem lt5 {k : Nat} (h : k < 5) : k = 0 ∨ k = 1 ∨ k = 2 ∨ k = 3 ∨ k = 4 := by omega
theorem stoL_get0 (S : Nat → Pl.Shelf) (X : Nat → ShX) (n : Int) {k : Nat} (hk : k < 5) : (stoL S X n)[k * 2]? = some (.slice (X k).A (S k).objs.length (X k).c) := by
  rcases lt5 hk with rfl | rfl | rfl | rfl | rfl <;> rfl
theorem stoL_get1 (S : Nat → Pl.Shelf) (X : Nat → ShX) (n : Int) {k : Nat} (hk : k < 5) : (stoL S X n)[k * 2 + 1]? = some (.slice (X k).A' (S k).fates.length (X k).c') := by
  rcases lt5 hk with rfl | rfl | rfl | rfl | rfl <;> rfl
theorem stoL_left (S : Nat → Pl.Shelf) (X : Nat → ShX) (n : Int) : (stoL S X n)[10]? = some (.int .i64 n) := rfl
theorem stoL_set (S : Nat → Pl.Shelf) (X : Nat → ShX) (n : Int) {k : Nat} (hk : k < 5) (s : Pl.Shelf) (x : ShX) :
    ((stoL S X n).set (k * 2) (.slice x.A s.objs.length x.c)).set (k * 2 + 1) (.slice x.A' s.fates.length x.c') = stoL (upd S k s) (upd X k x) n := by
  rcases lt5 hk with rfl | rfl | rfl | rfl | rfl <;> rfl
theorem stoL_setLeft (S : Nat → Pl.Shelf) (X : Nat → ShX) (n m : Int) : (stoL S X n).set 10 (.int .i64 m) = stoL S X m := rfl
theorem stoL_take (S : Nat → Pl.Shelf) (X : Nat → ShX) (n : Int) : (stoL S X n).take 10 = stoC S X := rfl
theorem stoC_ext {S S' : Nat → Pl.Shelf} {X X' : Nat → ShX} (h : ∀ i, i < 5 → S i = S' i ∧ X i = X' i) : stoC S X = stoC S' X' := by
  unfold stoC
  rw [(h 0 (by omega)).1, (h 0 (by omega)).2, (h 1 (by omega)).1, (h 1 (by omega)).2, (h 2 (by omega)).1, (h 2 (by omega)).2, (h 3 (by omega)).1, (h 3 (by omega)).2, (h 4 (by omega)).1, (h 4 (by omega)).2]
theorem stoL_one (S : Nat → Pl.Shelf) (X : Nat → ShX) (n : Int) : ∀ v ∈ stoL S X n, v.oneCell' = true := by
  intro v hv
  simp only [stoL, stoC, shC, List.cons_append, List.nil_append, List.mem_cons, List.not_mem_nil, or_false] at hv
  rcases hv with rfl | rfl | rfl | rfl | rfl | rfl | rfl | rfl | rfl | rfl | rfl <;> rfl
theorem info_sto : (Tryz.prog.info? 33).map (·.size) = some 11 := by kernel_rfl
theorem info_sh5 : (Tryz.prog.info? 31).map (·.size) = some 10 := by kernel_rfl
/-- A shelf of five, by its place. -/
theorem index_sh (S : Nat → Pl.Shelf) (X : Nat → ShX) {k : Nat} (hk : k < 5) (w : World) : (Instr.index 31 (.agg (stoC S X).toArray) (.int .i64 (k : Int))).run Tryz.prog w = .ok (.agg #[.slice (X k).A (S k).objs.length (X k).c, .slice (X k).A' (S k).fates.length (X k).c']) w := by
  simp only [Instr.index, asIntOf, Sem.run_bind, Sem.run_pure, Result.andThen_ok, run_underlying Tryz.underlying31]
  rw [if_pos (by omega)]
  rcases lt5 hk with rfl | rfl | rfl | rfl | rfl <;> simp [part, Sem.run_bind, Tryz.sizeOf26, Tryz.isAgg26, stoC, shC]
/-- A block holds a store. -/
def StBx (B : Nat) (S : Nat → Pl.Shelf) (X : Nat → ShX) (n : Int) (W : World) : Prop := W.heap[B]? = some (.cells (stoL S X n).toArray 33 (0, 0))
theorem StBx.keep {B : Nat} {S : Nat → Pl.Shelf} {X : Nat → ShX} {n : Int} {W W' : World} (h : StBx B S X n W) (hb : Below W.heap.size W W') : StBx B S X n W' := (hb.block B (blk_lt h)).trans h
theorem StBx.c0 {B : Nat} {S : Nat → Pl.Shelf} {X : Nat → ShX} {n : Int} {W : World} (h : StBx B S X n W) {k : Nat} (hk : k < 5) : W.cell? ⟨B, k * 2, none⟩ = some (.slice (X k).A (S k).objs.length (X k).c) := by
  rw [cell_row W B _ _ _ h]; simpa using stoL_get0 S X n hk
theorem StBx.c1 {B : Nat} {S : Nat → Pl.Shelf} {X : Nat → ShX} {n : Int} {W : World} (h : StBx B S X n W) {k : Nat} (hk : k < 5) : W.cell? ⟨B, k * 2 + 1, none⟩ = some (.slice (X k).A' (S k).fates.length (X k).c') := by
  rw [cell_row W B _ _ _ h]; simpa using stoL_get1 S X n hk
theorem StBx.cl {B : Nat} {S : Nat → Pl.Shelf} {X : Nat → ShX} {n : Int} {W : World} (h : StBx B S X n W) : W.cell? ⟨B, 10, none⟩ = some (.int .i64 n) := by
  rw [cell_row W B _ _ _ h]; simpa using stoL_left S X n
theorem StBx.fz {B : Nat} {S : Nat → Pl.Shelf} {X : Nat → ShX} {n : Int} {W : World} (h : StBx B S X n W) (i : Nat) : W.frozen? ⟨B, i, none⟩ = false := frozen_of W B i _ _ h
theorem StBx.set {B : Nat} {S : Nat → Pl.Shelf} {X : Nat → ShX} {n : Int} {W : World} (h : StBx B S X n W) {k : Nat} (hk : k < 5) (s : Pl.Shelf) (x : ShX) : StBx B (upd S k s) (upd X k x) n ((W.setCell ⟨B, k * 2, none⟩ (.slice x.A s.objs.length x.c)).setCell ⟨B, k * 2 + 1, none⟩ (.slice x.A' s.fates.length x.c')) := by
  have h1 := set_at _ _ (k * 2 + 1) _ (.slice x.A' s.fates.length x.c') _ (set_at _ _ (k * 2) _ (.slice x.A s.objs.length x.c) _ h)
  unfold StBx
  rw [h1]
  simp only [List.setIfInBounds_toArray]
  rw [stoL_set S X n hk s x]
theorem StBx.setLeft {B : Nat} {S : Nat → Pl.Shelf} {X : Nat → ShX} {n : Int} {W : World} (h : StBx B S X n W) (m : Int) : StBx B S X m (W.setCell ⟨B, 10, none⟩ (.int .i64 m)) := by
  have h1 := set_at _ _ 10 _ (.int .i64 m) _ h
  unfold StBx
  rw [h1]
  simp only [List.setIfInBounds_toArray]
  rw [stoL_setLeft]
theorem StBx.range {B : Nat} {S : Nat → Pl.Shelf} {X : Nat → ShX} {n : Int} {W : World} (h : StBx B S X n W) : W.rangeAt B 0 (stoL S X n) := rangeL h
theorem StBx.range5 {B : Nat} {S : Nat → Pl.Shelf} {X : Nat → ShX} {n : Int} {W : World} (h : StBx B S X n W) : W.rangeAt B 0 (stoC S X) := fun j v hv => by
  refine rangeL h j v ?_
  unfold stoL
  rw [List.getElem?_append_left]
  · exact hv
  · rcases Nat.lt_or_ge j (stoC S X).length with h | h
    · exact h
    · rw [List.getElem?_eq_none h] at hv; cases hv
theorem StBx.new (w : World) (S : Nat → Pl.Shelf) (X : Nat → ShX) (n : Int) : StBx w.heap.size S X n (w.alloc (.cells (stoL S X n).toArray 33)) := heap_alloc_new w _
/-- A store into a cell that holds a slice leaves what is no slice. -/
theorem SlAt.setSl {W : World} {k : Nat} {A : Option Addr} {n c : Nat} {xs : List Value} (h : SlAt W k A n c xs) (hx : ∀ u ∈ xs, notSl u = true) {p : Addr} {u : Value} (hp : W.cell? p = some u) (hu : notSl u = false) (v : Value) : SlAt (W.setCell p v) k A n c xs := by
  refine ⟨⟨h.1.1, fun hn => ?_⟩, h.2⟩
  obtain ⟨b, off, rfl, hlt, hc⟩ := h.1.2 hn
  refine ⟨b, off, rfl, by simpa [World.size_setCell] using hlt, fun j hj => ?_⟩
  rw [World.cell?_setCell_other]
  · exact hc j hj
  · intro e
    have h1 := hc j hj
    have e' : p = ⟨b, off + j, none⟩ := by first | exact e | exact e.symm
    rw [← e', hp, List.getElem?_eq_getElem hj] at h1
    injection h1 with h1
    rw [h1, hx _ (List.getElem_mem _)] at hu
    cases hu
theorem ShOk.setSl {W : World} {s : Pl.Shelf} {x : ShX} (h : ShOk W s x) {p : Addr} {u : Value} (hp : W.cell? p = some u) (hu : notSl u = false) (v : Value) : ShOk (W.setCell p v) s x :=
  ⟨h.1.setSl (objCs_notSl _) hp hu v, h.2.setSl (ints_notSl _) hp hu v⟩
/-- A shelf of a store is replaced. -/
theorem StBx.ok {B : Nat} {S : Nat → Pl.Shelf} {X : Nat → ShX} {n : Int} {W : World} (h : StBx B S X n W) (ho : StOk W S X) {k : Nat} (hk : k < 5) {s : Pl.Shelf} {x : ShX} (hs : ShOk W s x) :
    StOk ((W.setCell ⟨B, k * 2, none⟩ (.slice x.A s.objs.length x.c)).setCell ⟨B, k * 2 + 1, none⟩ (.slice x.A' s.fates.length x.c')) (upd S k s) (upd X k x) := by
  have h0 := h.c0 hk
  have h1 : (W.setCell ⟨B, k * 2, none⟩ (.slice x.A s.objs.length x.c)).cell? ⟨B, k * 2 + 1, none⟩ = some (.slice (X k).A' (S k).fates.length (X k).c') := by
    rw [World.cell?_setCell_other]
    · exact h.c1 hk
    · simp
  intro i hi
  by_cases e : i = k
  · subst e
    rw [upd_same, upd_same]
    exact (hs.setSl h0 rfl _).setSl h1 rfl _
  · rw [upd_other _ _ e, upd_other _ _ e]
    exact ((ho i hi).setSl h0 rfl _).setSl h1 rfl _
theorem SlO.at {b : Nat} {w : World} {A : Option Addr} {n c : Nat} {l : List Pl.Obj} (h : SlO b w A n c l) : SlAt w 4 A n c (objCs l) := h.1
theorem SlF.at {b : Nat} {w : World} {A : Option Addr} {n c : Nat} {l : List Int} (h : SlF b w A n c l) : SlAt w 1 A n c (ints l) := h.1
/-- A shelf whose lists lie in blocks of their own kinds, from block b on. -/
def ShF (b : Nat) (w : World) (s : Pl.Shelf) (x : ShX) : Prop := SlO b w x.A s.objs.length x.c s.objs ∧ SlF b w x.A' s.fates.length x.c' s.fates
theorem ShF.ok {b : Nat} {w : World} {s : Pl.Shelf} {x : ShX} (h : ShF b w s x) : ShOk w s x := ⟨h.1.1, h.2.1⟩
theorem ShF.weak {b b' : Nat} {w : World} {s : Pl.Shelf} {x : ShX} (h : ShF b w s x) (hb : b' ≤ b) : ShF b' w s x := ⟨⟨h.1.1, fun g hg => ⟨Nat.le_trans hb (h.1.2 g hg).1, (h.1.2 g hg).2⟩⟩, ⟨h.2.1, fun g hg => ⟨Nat.le_trans hb (h.2.2 g hg).1, (h.2.2 g hg).2⟩⟩⟩
def StF (b : Nat) (w : World) (S : Nat → Pl.Shelf) (X : Nat → ShX) : Prop := ∀ i, i < 5 → ShF b w (S i) (X i)
theorem StF.ok {b : Nat} {w : World} {S : Nat → Pl.Shelf} {X : Nat → ShX} (h : StF b w S X) : StOk w S X := fun i hi => (h i hi).ok
theorem StF.weak {b b' : Nat} {w : World} {S : Nat → Pl.Shelf} {X : Nat → ShX} (h : StF b w S X) (hb : b' ≤ b) : StF b' w S X := fun i hi => (h i hi).weak hb
/-- Blocks of objects, and of numbers, are as they were, from block b on. -/
def KpT (b : Nat) (W W' : World) : Prop := W.heap.size ≤ W'.heap.size ∧ ∀ (g : Nat) (C : Array Value) (t : TypeId), b ≤ g → W.heap[g]? = some (.cells C t (0, 0)) → t = 49 ∨ t = 3 → W'.heap[g]? = W.heap[g]?
theorem KpT.refl (b : Nat) (W : World) : KpT b W W := ⟨Nat.le_refl _, fun _ _ _ _ _ _ => rfl⟩
theorem KpT.trans {b : Nat} {X Y Z : World} (h : KpT b X Y) (k : KpT b Y Z) : KpT b X Z := ⟨Nat.le_trans h.1 k.1, fun g C t hb hg ht => (k.2 g C t hb ((h.2 g C t hb hg ht).trans hg) ht).trans (h.2 g C t hb hg ht)⟩
theorem KpT.below {b : Nat} {W W' : World} (h : Below W.heap.size W W') : KpT b W W' := ⟨h.size, fun g C t _ hg _ => h.block g (blk_lt hg)⟩
theorem KpT.set {b : Nat} {W : World} {R : Nat} {C : Array Value} {t : TypeId} (hR : W.heap[R]? = some (.cells C t (0, 0))) (h1 : t ≠ 49) (h2 : t ≠ 3) (i : Nat) (v : Value) : KpT b W (W.setCell ⟨R, i, none⟩ v) := by
  refine ⟨by simp [World.setCell], fun g D u _ hg hu => Below.heap_setCell _ _ _ _ ?_⟩
  rintro rfl
  rw [show W.heap[g]? = _ from hR] at hg
  injection hg with hg
  injection hg with _ e
  subst e
  rcases hu with hu | hu
  · exact h1 hu
  · exact h2 hu
theorem KpT.sets {b : Nat} {W : World} {R : Nat} {C : Array Value} {t : TypeId} (hR : W.heap[R]? = some (.cells C t (0, 0))) (h1 : t ≠ 49) (h2 : t ≠ 3) : ∀ (o : Nat) (vs : List Value), KpT b W (W.setCells R o vs) := by
  intro o vs
  induction vs generalizing W C o with
  | nil => exact KpT.refl b W
  | cons v vs ih => exact (KpT.set hR h1 h2 o v).trans (ih (set_at W R o C v t hR) (o + 1))
theorem SlAt.kpt {b : Nat} {W W' : World} {k : Nat} {A : Option Addr} {n c : Nat} {xs : List Value} {t : TypeId} (h : SlAt W k A n c xs) (ht : ∀ g, A.map Addr.block = some g → b ≤ g ∧ ∃ C, W.heap[g]? = some (.cells C t (0, 0))) (hu : t = 49 ∨ t = 3) (hk : KpT b W W') : SlAt W' k A n c xs := by
  refine ⟨⟨h.1.1, fun hn => ?_⟩, h.2⟩
  obtain ⟨b0, off, rfl, hlt, hc⟩ := h.1.2 hn
  obtain ⟨hb0, C, hC⟩ := ht b0 rfl
  exact ⟨b0, off, rfl, Nat.lt_of_lt_of_le hlt hk.1, fun j hj => (World.cell?_of_block (hk.2 b0 C t hb0 hC hu)).trans (hc j hj)⟩
theorem ty_kpt {b : Nat} {W W' : World} {A : Option Addr} {t : TypeId} (ht : ∀ g, A.map Addr.block = some g → b ≤ g ∧ ∃ C, W.heap[g]? = some (.cells C t (0, 0))) (hu : t = 49 ∨ t = 3) (hk : KpT b W W') : ∀ g, A.map Addr.block = some g → b ≤ g ∧ ∃ C, W'.heap[g]? = some (.cells C t (0, 0)) := fun g hg => by
  obtain ⟨hb0, C, hC⟩ := ht g hg
  exact ⟨hb0, C, (hk.2 g C t hb0 hC hu).trans hC⟩
theorem ShF.kpt {b : Nat} {W W' : World} {s : Pl.Shelf} {x : ShX} (h : ShF b W s x) (hk : KpT b W W') : ShF b W' s x :=
  ⟨⟨h.1.1.kpt h.1.2 (.inl rfl) hk, ty_kpt h.1.2 (.inl rfl) hk⟩, ⟨h.2.1.kpt h.2.2 (.inr rfl) hk, ty_kpt h.2.2 (.inr rfl) hk⟩⟩
theorem StF.kpt {b : Nat} {W W' : World} {S : Nat → Pl.Shelf} {X : Nat → ShX} (h : StF b W S X) (hk : KpT b W W') : StF b W' S X := fun i hi => (h i hi).kpt hk
theorem ty_sto : (33 : TypeId) ≠ 49 ∧ (33 : TypeId) ≠ 3 := by decide
theorem StBx.kpt {b B : Nat} {S : Nat → Pl.Shelf} {X : Nat → ShX} {n : Int} {W : World} (h : StBx B S X n W) (i : Nat) (v : Value) : KpT b W (W.setCell ⟨B, i, none⟩ v) := KpT.set h ty_sto.1 ty_sto.2 i v
theorem StBx.kpts {b B : Nat} {S : Nat → Pl.Shelf} {X : Nat → ShX} {n : Int} {W : World} (h : StBx B S X n W) (vs : List Value) : KpT b W (W.setCells B 0 vs) := KpT.sets h ty_sto.1 ty_sto.2 0 vs
/-- A shelf of a store is replaced. -/
theorem StBx.okF {b B : Nat} {S : Nat → Pl.Shelf} {X : Nat → ShX} {n : Int} {W : World} (h : StBx B S X n W) {k : Nat} (s : Pl.Shelf) (x : ShX) : KpT b W ((W.setCell ⟨B, k * 2, none⟩ (.slice x.A s.objs.length x.c)).setCell ⟨B, k * 2 + 1, none⟩ (.slice x.A' s.fates.length x.c')) :=
  (h.kpt _ _).trans (KpT.set (set_at _ _ _ _ _ _ h) ty_sto.1 ty_sto.2 _ _)
theorem results_sto1 {fn : Func} {tmps : Array Value} {w : World} {a B : Nat} {L : List Value} (hf : fn.results = #[.cell a 33]) (ha : tmps[a]?.getD undef = .pointer (some ⟨B, 0, none⟩)) (hc : w.rangeAt B 0 L) (hl : (Tryz.prog.info? 33).map (·.size) = some L.length) :
    (results fn tmps).run Tryz.prog w = .ok (.agg L.toArray) w := by
  have h := run_loadVar_mid (P := Tryz.prog) w B 0 33 L _ hc Tryz.underlying33 rfl hl
  simp [results, hf, ha, asAddr, h, Sem.run_bind]
/-- A shelf that memory has. -/
def FitS (S : Nat → Pl.Shelf) : Prop := ∀ i, i < 5 → Pl.FitG (S i).objs (S i).fates
end Go.Proofs.YtdnebgilkfafhaaGreatDoor
namespace Go.Proofs.YtdnebgilkfafhaaGreatDoor
open Go.RowKit
set_option linter.unusedVariables false
set_option linter.unusedSimpArgs false
attribute [local go_sem] ba_get ba_cut ba_add
set_option maxRecDepth 100000 in
theorem smayName_any (nm : List UInt8) (w : World) : Calls Tryz.prog 39 #[.string ⟨nm.toArray⟩] w (Ret (.bool (Pl.okName nm)) w) := by
  obtain ⟨b, hb⟩ : ∃ b, Pl.okName nm = b := ⟨_, rfl⟩
  rw [hb]
  unfold Pl.okName at hb
  go_enter Tryz.func39, Tryz.ntmps39
  go_wp2_with fail
  all_goals
    go_ret
    refine ⟨?_, rfl⟩
    rw [← hb]
    first
      | (show Ending.returned (Value.bool (decide _)) = Ending.returned (Value.bool (decide _)); congr 2; apply decide_eq_decide.2; omega)
      | (show Ending.returned (Value.bool false) = Ending.returned (Value.bool (decide _)); congr 2; exact (decide_eq_false (by omega)).symm)
set_option maxRecDepth 100000 in
theorem smayPut_any (nm d : List UInt8) (w : World) : Calls Tryz.prog 32 #[.string ⟨nm.toArray⟩, .string ⟨d.toArray⟩] w (Ret (.int .i64 ((Pl.mayPutE nm d : Nat) : Int)) w) := by
  have hn := fun W => smayName_any nm W
  obtain ⟨e, he⟩ : ∃ e, Pl.mayPutE nm d = e := ⟨_, rfl⟩
  rw [he]
  unfold Pl.mayPutE at he
  obtain ⟨b, hb⟩ : ∃ b, Pl.okName nm = b := ⟨_, rfl⟩
  rw [hb] at hn he
  have HN := Lib.hid hn
  clear hn hb
  go_enter Tryz.func32, Tryz.ntmps32
  cases b with
  | false =>
    rw [if_pos rfl] at he
    subst he
    go_wp2_with fail
    (with_reducible refine (HN.out w).mono ?_)
    rintro e w1 ⟨rfl, rfl⟩
    go_wp2_with fail
    go_ret
    exact ⟨rfl, rfl⟩
  | true =>
    rw [if_neg (by simp)] at he
    by_cases hd : 65536 < d.length
    · rw [if_pos hd] at he
      subst he
      go_wp2_with fail
      (with_reducible refine (HN.out w).mono ?_)
      rintro e w1 ⟨rfl, rfl⟩
      go_wp2_with fail
      go_ret
      exact ⟨rfl, rfl⟩
    · rw [if_neg hd] at he
      subst he
      go_wp2_with fail
      (with_reducible refine (HN.out w).mono ?_)
      rintro e w1 ⟨rfl, rfl⟩
      go_wp2_with fail
      go_ret
      exact ⟨rfl, rfl⟩
theorem zero_sto : (#[.slice none 0 0, .slice none 0 0, .slice none 0 0, .slice none 0 0, .slice none 0 0, .slice none 0 0, .slice none 0 0, .slice none 0 0, .slice none 0 0, .slice none 0 0, .int .i64 0] : Array Value) = (stoL (fun _ => Pl.noSh) (fun _ => ⟨none, 0, none, 0⟩) 0).toArray := rfl
set_option maxRecDepth 100000 in
set_option maxHeartbeats 4000000 in
theorem scopied_any (S : Nat → Pl.Shelf) (X : Nat → ShX) (n : Int) (w : World) (hok : StOk w S X) (hfit : FitS S) :
    Calls Tryz.prog 33 #[.agg (stoL S X n).toArray] w (RetB (fun v w' => ∃ X', v = .agg (stoL S X' n).toArray ∧ StF w.heap.size w' S X') w) := by
  have hco := fun k (hk : k < 5) x W h => cloneO_any (ShX.A x) (S k).objs.length (ShX.c x) (S k).objs W rfl h (hfit k hk).1
  have hci := fun k (hk : k < 5) x W h => cloneI_any (ShX.A' x) (S k).fates.length (ShX.c' x) (S k).fates W rfl h (hfit k hk).2
  have HC := Lib.hid (And.intro hco (And.intro hci hok)); clear hco hci hok hfit
  obtain ⟨L, hL⟩ : ∃ L, stoL S X n = L := ⟨_, rfl⟩
  have HL := Lib.hid hL
  have HIL : Hid ((Tryz.prog.info? 33).map (·.size) = some L.toArray.size) := by rw [List.size_toArray, ← hL]; exact info_sto
  rw [hL]
  clear hL
  go_enter Tryz.func33, Tryz.ntmps33
  go_upto_region 1 with (fail)
  rw [zero_sto, ← HL.out]
  have hbx := StBx.new w S X n
  have hrx := StBx.new (w.alloc (.cells (stoL S X n).toArray 33)) (fun _ => Pl.noSh) (fun _ => ⟨none, 0, none, 0⟩) 0
  obtain ⟨B, hB⟩ : ∃ B, w.heap.size = B := ⟨_, rfl⟩
  have hsz : (w.alloc (.cells (stoL S X n).toArray 33)).heap.size = B + 1 := by simp [hB]
  rw [hB] at hbx ⊢
  rw [hsz] at hrx
  generalize hV : World.alloc (World.alloc w _) _ = V
  have hb : Below B w V := by rw [← hV, ← hB]; exact ((Below.refl _ _).alloc (Nat.le_refl _) _).alloc (by simp) _
  have hbx' : StBx B S X n V := by rw [← hV]; exact hbx.keep ((Below.refl _ _).alloc (Nat.le_refl _) _)
  rw [hV] at hrx
  have H0 := Lib.hid (And.intro hbx' (And.intro hrx hb))
  clear hbx hrx hsz hV hb hbx'
  obtain ⟨M, hM⟩ : ∃ M, stoC S X = M := ⟨_, rfl⟩
  have hrg : V.rangeAt B 0 M := by rw [← hM]; exact H0.out.1.range5
  have hM5 : (Tryz.prog.info? 31).map (·.size) = some M.length := by rw [← hM]; exact info_sh5
  have HM := Lib.hid (And.intro hM (And.intro hrg hM5))
  clear hM hrg hM5
  go_upto_region 2 with (with_reducible refine wpList_load_mid rfl 31 _ rfl B 0 rfl M _ HM.out.2.1 Tryz.underlying31 rfl HM.out.2.2 ?_)
  go_loopw [7] (fun i wr => ∃ (k : Nat), k ≤ 5 ∧ i = .int .i64 (k : Int) ∧ Hid (∃ Y, StBx B S Y n wr ∧ (∀ i, i < 5 → (i < k → ShF B wr (S i) (Y i)) ∧ (k ≤ i → Y i = X i)) ∧ StBx (B + 1) (fun _ => Pl.noSh) (fun _ => ⟨none, 0, none, 0⟩) 0 wr ∧ Below B w wr)) (fun i _ => 5 - (intOf i).toNat)
  case atStart => exact ⟨0, by omega, rfl, X, H0.out.1, fun i _ => ⟨fun h => absurd h (by omega), fun _ => rfl⟩, H0.out.2.1, H0.out.2.2⟩
  case round =>
    obtain ⟨k, hk, rfl, HK⟩ := hrel
    by_cases hk5 : k < 5
    · have hidx := fun W => index_sh S X hk5 W
      rw [HM.out.1] at hidx
      obtain ⟨Y, hbx, hok, hrx, hbel⟩ := HK.out
      have hx := HC.out.2.2 k hk5
      have hco := fun W h => HC.out.1 k hk5 (X k) W h
      have hci := fun W h => HC.out.2.1 k hk5 (X k) W h
      obtain ⟨⟨A, c, A', c'⟩, hXk⟩ : ∃ x, X k = x := ⟨_, rfl⟩
      obtain ⟨s, hSk⟩ : ∃ s, S k = s := ⟨_, rfl⟩
      rw [hXk, hSk] at hidx hx hco hci
      obtain ⟨a, ha⟩ : ∃ a, s.objs.length = a := ⟨_, rfl⟩
      obtain ⟨b, hb⟩ : ∃ b, s.fates.length = b := ⟨_, rfl⟩
      unfold ShOk at hx
      simp only [ha, hb] at hidx hx hco hci
      have HB := Lib.hid (And.intro hbx (And.intro hok (And.intro hrx (And.intro hbel (And.intro hco (And.intro hci (And.intro ha (And.intro hb (And.intro hSk (hx.1.below (by rw [hB]; exact hbel)))))))))))
      have HB2 := Lib.hid (hx.2.below (by rw [hB]; exact hbel))
      clear hbx hok hrx hbel hco hci ha hb hSk hXk hx
      go_upto_region 4 with (fail)
      obtain ⟨T, hT⟩ : ∃ T, wr.heap.size = T := ⟨_, rfl⟩
      have hTB : B + 1 < T := by rw [← hT]; exact blk_lt HB.out.2.2.1
      generalize hW1 : World.alloc wr _ = W1
      have hz1 : W1.heap[T]? = some (.cells #[.slice A a c, .slice A' b c'] 26 (0, 0)) := by rw [← hW1, ← hT]; exact heap_alloc_new _ _
      have hb1 : Below wr.heap.size wr W1 := by rw [← hW1]; exact (Below.refl _ _).alloc (Nat.le_refl _) _
      have hs1 : W1.heap.size = T + 1 := by rw [← hW1]; simp [hT]
      simp only [hT]
      clear hW1
      have c0 : W1.cell? ⟨T, 0, none⟩ = some (.slice A a c) := by rw [cell_row W1 T 0 _ _ hz1]; rfl
      have c1 : W1.cell? ⟨T, 1, none⟩ = some (.slice A' b c') := by rw [cell_row W1 T 1 _ _ hz1]; rfl
      have hd0 : Below W1.heap.size W1 W1.drew := (Below.refl _ _).drew
      have hlt : T < W1.heap.size := by omega
      refine wp_region_held_drew (S := (fun w' => w'.cell? ⟨T, 0, none⟩ = some (.slice A a c) ∧ w'.cell? ⟨T, 1, none⟩ = some (.slice A' b c'))) (by kernel_rfl) (by exact ⟨c0, c1⟩) (fun hHeld => ?_)
      refine tk 0 (v := ?_) rfl ?_ hHeld ?_
      rotate_left
      · (intro w' hSw; (try dsimp only at hSw); (try obtain ⟨hS0, hS1⟩ := hSw); go_simp; try with_reducible rfl)
      simp only [Act.put, lay9]
      refine tk 1 (v := ?_) rfl ?_ hHeld ?_
      rotate_left
      · (intro w' hSw; (try dsimp only at hSw); (try obtain ⟨hS0, hS1⟩ := hSw); go_simp; try with_reducible rfl)
      simp only [Act.put, lay9]
      refine tk 2 (v := ?_) rfl ?_ hHeld ?_
      rotate_left
      · (intro w' hSw; (try dsimp only at hSw); (try obtain ⟨hS0, hS1⟩ := hSw); go_simp; try with_reducible rfl)
      simp only [Act.put, lay9]
      refine tk 4 (v := ?_) rfl ?_ hHeld ?_
      rotate_left
      · (intro w' hSw; (try dsimp only at hSw); (try obtain ⟨hS0, hS1⟩ := hSw); go_simp; try with_reducible rfl)
      simp only [Act.put, lay9]
      refine tk 5 (v := ?_) rfl ?_ hHeld ?_
      rotate_left
      · (intro w' hSw; (try dsimp only at hSw); (try obtain ⟨hS0, hS1⟩ := hSw); go_simp; try with_reducible rfl)
      simp only [Act.put, lay9]
      refine tk 8 (v := ?_) rfl ?_ hHeld ?_
      rotate_left
      · (intro w' hSw; (try dsimp only at hSw); (try obtain ⟨hS0, hS1⟩ := hSw); go_simp; try with_reducible rfl)
      simp only [Act.put, lay9]
      refine wpAnyH_ready (rs := [3]) (by kernel_rfl) (by simp) (AllReadyH.cons rfl (fun K hK => ?_) AllReadyH.nil)
      go_simp
      (with_reducible refine (HB.out.2.2.2.2.1 _ (by exact (HB.out.2.2.2.2.2.2.2.2.2.below hb1).below hd0)).mono ?_)
      rintro e w1 ⟨v, rfl, hown1, hb2⟩
      have hd1 := hd0.trans (hb2.mono hd0.size)
      obtain ⟨A1, c1', rfl⟩ := own_form hown1
      refine hK.out _ _ ⟨(hd1.cell (p := ⟨T, 0, none⟩) hlt).trans c0, (hd1.cell (p := ⟨T, 1, none⟩) hlt).trans c1⟩ (fun hHeld => ?_)
      clear hK K
      (try simp only [Act.put, lay9])
      refine wpAnyH_ready (rs := [6]) (by kernel_rfl) (by simp) (AllReadyH.cons rfl (fun K hK => ?_) AllReadyH.nil)
      go_simp
      (with_reducible refine (HB.out.2.2.2.2.2.1 _ (by exact (HB2.out.below hb1).below hd1)).mono ?_)
      rintro e w2 ⟨v, rfl, hown2, hb3⟩
      have hd2 := hd1.trans (hb3.mono hd1.size)
      obtain ⟨A2, c2', rfl⟩ := own_form hown2
      have hown1' := own_below hown1 hb3
      refine hK.out _ _ ⟨(hd2.cell (p := ⟨T, 0, none⟩) hlt).trans c0, (hd2.cell (p := ⟨T, 1, none⟩) hlt).trans c1⟩ (fun hHeld => ?_)
      clear hK K
      (try simp only [Act.put, lay9])
      have hbw : Below wr.heap.size wr w2 := hb1.trans (hd2.mono hb1.size)
      have hbx2 := HB.out.1.keep hbw
      have hq0 := hbx2.c0 hk5
      have hq1 := hbx2.c1 hk5
      have hqf := hbx2.fz
      have hTne : T ≠ B := by omega
      have hkk : (k : Int) < 5 := by omega
      refine tk 7 (v := ?_) rfl ?_ hHeld ?_
      rotate_left
      · (intro w' hSw; (try dsimp only at hSw); (try obtain ⟨hS0, hS1⟩ := hSw); go_simp; try with_reducible rfl)
      simp only [Act.put, lay9]
      refine tk 9 (v := ?_) rfl ?_ hHeld ?_
      rotate_left
      · (intro w' hSw; (try dsimp only at hSw); (try obtain ⟨hS0, hS1⟩ := hSw); go_simp; try with_reducible rfl)
      simp only [Act.put, lay9]
      refine wpAnyH_ready (rs := [10]) (by kernel_rfl) (by simp) (AllReadyH.cons rfl (fun K hK => ?_) AllReadyH.nil)
      go_simp
      refine hK.out _ _ ⟨((World.cell?_setCell_far _ _ _ _ (by simp; omega)).trans (World.cell?_setCell_far _ _ _ _ (by simp; omega))).trans hHeld.1, ((World.cell?_setCell_far _ _ _ _ (by simp; omega)).trans (World.cell?_setCell_far _ _ _ _ (by simp; omega))).trans hHeld.2⟩ (fun hHeld => ?_)
      clear hK K
      (try simp only [Act.put, lay9])
      refine wpAnyH_done (by kernel_rfl) ?_ _
      have hset := hbx2.set hk5 s ⟨A1, c1', A2, c2'⟩
      simp only [HB.out.2.2.2.2.2.2.1, HB.out.2.2.2.2.2.2.2.1] at hset
      have hSu : upd S k s = S := by
        funext j
        unfold upd
        split
        · next h => rw [h]; exact HB.out.2.2.2.2.2.2.2.2.1.symm
        · rfl
      rw [hSu] at hset
      have hsz := HB.out.2.2.2.1.size
      have hw2 : T < w2.heap.size := Nat.lt_of_lt_of_le hlt hd2.size
      have hkp := (KpT.below (b := B) hbw).trans (hbx2.okF (k := k) s ⟨A1, c1', A2, c2'⟩)
      simp only [HB.out.2.2.2.2.2.2.1, HB.out.2.2.2.2.2.2.2.1] at hkp
      have hnew : ShF B w2 s ⟨A1, c1', A2, c2'⟩ := ⟨⟨by simp only [HB.out.2.2.2.2.2.2.1]; exact own_sl hown1', own_tyO hown1' (hb := by show B ≤ W1.heap.size; omega)⟩, ⟨by simp only [HB.out.2.2.2.2.2.2.2.1]; exact own_sl hown2, own_ty hown2 (hb := by have := hd1.size; omega)⟩⟩
      have hnew2 := hnew.kpt (hbx2.okF (k := k) s ⟨A1, c1', A2, c2'⟩)
      simp only [HB.out.2.2.2.2.2.2.1, HB.out.2.2.2.2.2.2.2.1] at hnew2
      have hok2 : ∀ i, i < 5 → (i < k + 1 → ShF B ((w2.setCell ⟨B, k * 2, none⟩ (.slice A1 a c1')).setCell ⟨B, k * 2 + 1, none⟩ (.slice A2 b c2')) (S i) (upd Y k ⟨A1, c1', A2, c2'⟩ i)) ∧ (k + 1 ≤ i → upd Y k ⟨A1, c1', A2, c2'⟩ i = X i) := by
        intro i hi
        refine ⟨fun hik => ?_, fun hik => ?_⟩
        · by_cases e : i = k
          · subst e
            rw [upd_same, HB.out.2.2.2.2.2.2.2.2.1]
            exact hnew2
          · rw [upd_other _ _ e]
            exact ((HB.out.2.1 i hi).1 (by omega)).kpt hkp
        · rw [upd_other _ _ (by omega)]
          exact (HB.out.2.1 i hi).2 (by omega)
      have hbw2 : Below B w ((w2.setCell ⟨B, k * 2, none⟩ (.slice A1 a c1')).setCell ⟨B, k * 2 + 1, none⟩ (.slice A2 b c2')) := ((HB.out.2.2.2.1.trans (hbw.mono (by rw [hT]; omega))).setCell (Nat.le_refl _) _).setCell (Nat.le_refl _) _
      have hrx2 : StBx (B + 1) (fun _ => Pl.noSh) (fun _ => ⟨none, 0, none, 0⟩) 0 ((w2.setCell ⟨B, k * 2, none⟩ (.slice A1 a c1')).setCell ⟨B, k * 2 + 1, none⟩ (.slice A2 b c2')) := ((Below.heap_setCell _ _ _ _ (by show B + 1 ≠ B; omega)).trans (Below.heap_setCell _ _ _ _ (by show B + 1 ≠ B; omega))).trans (HB.out.2.2.1.keep hbw)
      have HE := Lib.hid (And.intro hset (And.intro hok2 (And.intro hrx2 hbw2)))
      clear hset hok2 hrx2 hbw2 hSu hq0 hq1 hqf hbx2
      go_wp2_with fail
      go_roundw
      case rel => exact ⟨k + 1, by omega, ret_i (by omega), _, HE.out⟩
      case measure => simp only [intOf]; omega
    · obtain rfl : k = 5 := by omega
      obtain ⟨Y, hbx, hok, hrx, hbel⟩ := HK.out
      obtain ⟨L5, hL5⟩ : ∃ L5, stoL S Y n = L5 := ⟨_, rfl⟩
      have hrg := hbx.range
      have hin : (Tryz.prog.info? 33).map (·.size) = some L5.toArray.size := by rw [List.size_toArray, ← hL5]; exact info_sto
      have hin2 : (Tryz.prog.info? 33).map (·.size) = some L5.length := by rw [← hL5]; exact info_sto
      have hone : ∀ v ∈ L5, v.oneCell' = true := by rw [← hL5]; exact stoL_one S Y n
      have hth : wr.there (B + 1) 0 L5.toArray.size := thereL hrx (by rw [← hL5]; exact Nat.le_refl 11)
      rw [hL5] at hrg
      have HE := Lib.hid (And.intro hL5 (And.intro hrg (And.intro hin (And.intro hin2 (And.intro hone (And.intro hth (And.intro hrx (And.intro hok hbel))))))))
      clear hL5 hrg hin hin2 hone hth hrx hok hbel hbx HM
      go_wp2_with first
        | with_reducible refine wpList_load_mid rfl 33 _ rfl B 0 rfl L5 _ HE.out.2.1 Tryz.underlying33 rfl HE.out.2.2.2.1 ?_
        | with_reducible refine wpList_store_mid rfl 33 _ _ rfl (B + 1) 0 L5.toArray rfl rfl HE.out.2.2.2.2.2.1 HE.out.2.2.1 (all_oneCell_toArray HE.out.2.2.2.2.1) ?_
      have hst : StF B wr S Y := fun i hi => (HE.out.2.2.2.2.2.2.2.1 i hi).1 (by omega)
      refine bodyPost_ret (v := .agg L5.toArray) (results_sto1 (B := B + 1) rfl rfl (World.rangeAt_setCells_same _ _ _ _ (by have := HE.out.2.2.2.2.2.1; simpa using this)) HE.out.2.2.2.1) rfl ?_
      exact ⟨_, rfl, ⟨Y, by rw [HE.out.1], hst.kpt (HE.out.2.2.2.2.2.2.1.kpts _)⟩, by rw [hB]; exact HE.out.2.2.2.2.2.2.2.2.trans (Lib.below_setCells_w (by omega) _ _ _)⟩
end Go.Proofs.YtdnebgilkfafhaaGreatDoor
namespace Go.Proofs.YtdnebgilkfafhaaGreatDoor
open Go.RowKit
set_option linter.unusedVariables false
set_option linter.unusedSimpArgs false
/-- What a closure that is handed to all leaves as it was: blocks that are none of its own, and hold no texts. -/
def KpX (K : Nat → Prop) (W W' : World) : Prop := ∀ (g : Nat) (C : Array Value) (t : TypeId), W.heap[g]? = some (.cells C t (0, 0)) → ¬ K g → t ≠ 9 → W'.heap[g]? = W.heap[g]?
/-- What all itself leaves as it was: blocks that were there ahead of it, and such as hold neither a store nor a shelf. -/
def KpA (N : Nat) (W W' : World) : Prop := W.heap.size ≤ W'.heap.size ∧ ∀ (g : Nat) (C : Array Value) (t : TypeId), W.heap[g]? = some (.cells C t (0, 0)) → g < N ∨ (t ≠ 33 ∧ t ≠ 26) → W'.heap[g]? = W.heap[g]?
theorem KpX.trans {K : Nat → Prop} {X Y Z : World} (h : KpX K X Y) (k : KpX K Y Z) : KpX K X Z := fun g C t hg hK ht => (k g C t ((h g C t hg hK ht).trans hg) hK ht).trans (h g C t hg hK ht)
theorem KpX.below {K : Nat → Prop} {W W' : World} (h : Below W.heap.size W W') : KpX K W W' := fun g C t hg _ _ => h.block g (blk_lt hg)
theorem KpX.weak {K K' : Nat → Prop} {W W' : World} (h : KpX K W W') (hk : ∀ g, g < W.heap.size → K g → K' g) : KpX K' W W' := fun g C t hg hK ht => h g C t hg (fun e => hK (hk g (blk_lt hg) e)) ht
theorem KpX.bel {K : Nat → Prop} {X Y Z : World} (h : KpX K X Y) {B : Nat} (hB : X.heap.size ≤ B) (hB2 : B ≤ Y.heap.size) (hb : Below B Y Z) : KpX K X Z := fun g C t hg hK ht => by
  have h1 := h g C t hg hK ht
  have h2 := blk_lt hg
  exact (hb.block g (by omega)).trans h1
theorem KpX.kpt {N : Nat} {K : Nat → Prop} (hK : ∀ g, K g → g < N) {W W' : World} (h : KpX K W W') (hs : W.heap.size ≤ W'.heap.size) : KpT N W W' := ⟨hs, fun g C t hb hg ht => h g C t hg (fun e => by have := hK g e; omega) (by rcases ht with rfl | rfl <;> decide)⟩
theorem KpX.sto {N : Nat} {K : Nat → Prop} (hK : ∀ g, K g → g < N) {W W' : World} (h : KpX K W W') {B : Nat} (hB : N ≤ B) {S : Nat → Pl.Shelf} {X : Nat → ShX} {n : Int} (hx : StBx B S X n W) : StBx B S X n W' := (h B _ _ hx (fun e => by have := hK B e; omega) (by decide)).trans hx
theorem KpA.below {N : Nat} {W W' : World} (h : Below W.heap.size W W') : KpA N W W' := ⟨h.size, fun g C t hg _ => h.block g (blk_lt hg)⟩
theorem KpA.trans {N : Nat} {X Y Z : World} (h : KpA N X Y) (k : KpA N Y Z) : KpA N X Z := ⟨Nat.le_trans h.1 k.1, fun g C t hg ht => (k.2 g C t ((h.2 g C t hg ht).trans hg) ht).trans (h.2 g C t hg ht)⟩
theorem KpA.set {N : Nat} {W : World} {R : Nat} {C : Array Value} {t : TypeId} (hR : W.heap[R]? = some (.cells C t (0, 0))) (hN : N ≤ R) (ht : t = 33 ∨ t = 26) (i : Nat) (v : Value) : KpA N W (W.setCell ⟨R, i, none⟩ v) := by
  refine ⟨by simp [World.setCell], fun g D u hg hu => Below.heap_setCell _ _ _ _ ?_⟩
  rintro rfl
  rw [show W.heap[g]? = _ from hR] at hg
  injection hg with hg
  injection hg with _ e
  subst e
  rcases hu with hu | ⟨h1, h2⟩
  · omega
  · rcases ht with ht | ht
    · exact h1 ht
    · exact h2 ht
theorem KpA.sets {N : Nat} {W : World} {R : Nat} {C : Array Value} {t : TypeId} (hR : W.heap[R]? = some (.cells C t (0, 0))) (hN : N ≤ R) (ht : t = 33 ∨ t = 26) : ∀ (o : Nat) (vs : List Value), KpA N W (W.setCells R o vs) := by
  intro o vs
  induction vs generalizing W C o with
  | nil => exact ⟨Nat.le_refl _, fun _ _ _ _ _ => rfl⟩
  | cons v vs ih => exact (KpA.set hR hN ht o v).trans (ih (set_at W R o C v t hR) (o + 1))
set_option maxRecDepth 100000 in
set_option maxHeartbeats 4000000 in
theorem all_any (F : FuncId) (lb : Array Value) (S S' : Nat → Pl.Shelf) (X : Nat → ShX) (n : Int) (hn : Pl.I64 n) (w : World) (B0 : Nat) (K : Nat → Prop) (J : Nat → World → Prop) (hok : StOk w S X) (hfit : FitS S) (hB0 : B0 ≤ w.heap.size) (hK : ∀ g, K g → g < w.heap.size)
    (hF : ∀ (a b c : Value) (W : World), (callFunc F (#[a, b, c] ++ lb)).run Tryz.prog W = .ok (.enter F (#[a, b, c] ++ lb)) W)
    (hJ : ∀ k W W', J k W → KpA w.heap.size W W' → J k W') (hJ0 : J 0 w)
    (hcall : ∀ k, k < 5 → ∀ (W : World) (x : ShX), w.heap.size ≤ W.heap.size → Below B0 w W → J k W → ShF w.heap.size W (S k) x → Calls Tryz.prog F (#[.int .i64 (k : Int), .agg #[.slice x.A (S k).objs.length x.c, .slice x.A' (S k).fates.length x.c'], .bool (Pl.leftAt n k == 0)] ++ lb) W
      (fun e W' => ∃ x', e = .returned (.agg #[.slice x'.A (S' k).objs.length x'.c, .slice x'.A' (S' k).fates.length x'.c']) ∧ ShF w.heap.size W' (S' k) x' ∧ J (k + 1) W' ∧ Below B0 W W' ∧ KpX K W W')) :
    Calls Tryz.prog 49 #[.agg (stoL S X n).toArray, .func (.func F) #[] lb] w (fun e w' => ∃ X', e = .returned (.agg (stoL S' X' (Pl.leftAt n 5)).toArray) ∧ StF w.heap.size w' S' X' ∧ J 5 w' ∧ Below B0 w w' ∧ KpX K w w') := by
  have hco := fun Y (h : StOk w S X) W (hY : StOk W S Y) => scopied_any S Y n W hY hfit
  obtain ⟨L, hL⟩ : ∃ L, stoL S X n = L := ⟨_, rfl⟩
  have HIL : Hid ((Tryz.prog.info? 33).map (·.size) = some L.length) := by rw [← hL]; exact info_sto
  have HL := Lib.hid hL
  rw [hL]
  clear hL
  go_enter Tryz.func49, Tryz.ntmps49
  go_upto_region 1 with (fail)
  rw [zero_sto, ← HL.out]
  have hbx := StBx.new w S X n
  have hrx := StBx.new (w.alloc (.cells (stoL S X n).toArray 33)) (fun _ => Pl.noSh) (fun _ => ⟨none, 0, none, 0⟩) 0
  obtain ⟨B, hB⟩ : ∃ B, w.heap.size = B := ⟨_, rfl⟩
  have hsz : (w.alloc (.cells (stoL S X n).toArray 33)).heap.size = B + 1 := by simp [hB]
  rw [hB] at hbx ⊢
  rw [hsz] at hrx
  generalize hV : World.alloc (World.alloc w _) _ = V
  have hb : Below B w V := by rw [← hV, ← hB]; exact ((Below.refl _ _).alloc (Nat.le_refl _) _).alloc (by simp) _
  have hbx' : StBx B S X n V := by rw [← hV]; exact hbx.keep ((Below.refl _ _).alloc (Nat.le_refl _) _)
  rw [hV] at hrx
  have HC := Lib.hid (hco X hok V (hok.below (by rw [hB]; exact hb)))
  have H0 := Lib.hid (And.intro hbx' (And.intro hrx hb))
  have HH := Lib.hid (And.intro hok (And.intro hJ (And.intro hJ0 (And.intro hcall hK))))
  rw [HL.out] at HC
  clear hbx hrx hsz hV hb hbx' hco hok hJ hJ0 hcall hK
  have hrg : V.rangeAt B 0 L := by rw [← HL.out]; exact H0.out.1.range
  have HR := Lib.hid hrg
  clear hrg
  go_upto_region 2 with first
    | with_reducible refine wpList_load_mid rfl 33 _ rfl B 0 rfl L _ HR.out Tryz.underlying33 rfl HIL.out ?_
    | (with_reducible refine HC.out.mono ?_)
  rintro e W1 ⟨v, rfl, ⟨X1, rfl, hst⟩, hb1⟩
  have hb1' := H0.out.2.2.trans (hb1.mono (by rw [← hB]; exact H0.out.2.2.size))
  have hbB := H0.out.1.keep hb1
  have hst := hst.weak (b' := B) (by rw [← hB]; exact H0.out.2.2.size)
  have hbR := H0.out.2.1.keep hb1
  obtain ⟨L1, hL1⟩ : ∃ L1, stoL S X1 n = L1 := ⟨_, rfl⟩
  have HI1 : Hid ((Tryz.prog.info? 33).map (·.size) = some L1.toArray.size) := by rw [List.size_toArray, ← hL1]; exact info_sto
  have HO1 := Lib.hid (show ∀ v ∈ L1, v.oneCell' = true by rw [← hL1]; exact stoL_one S X1 n)
  have HT1 := Lib.hid (show W1.there B 0 L1.toArray.size from thereL hbB (by rw [← hL1]; exact Nat.le_refl 11))
  have hset : (W1.setCells B 0 L1).heap[B]? = some (.cells (stoL S X1 n).toArray 33 (0, 0)) := by rw [hL1]; exact heap_setCells_all hbB (by rw [← hL1]; rfl)
  rw [hL1]
  have HL1 := Lib.hid hL1
  have hkp := hbB.kpts (b := B) L1
  have hka : KpA B W1 (W1.setCells B 0 L1) := KpA.sets hbB (Nat.le_refl _) (.inl rfl) 0 L1
  have hbR1 : StBx (B + 1) (fun _ => Pl.noSh) (fun _ => ⟨none, 0, none, 0⟩) 0 (W1.setCells B 0 L1) := by
    exact (World.heap_setCells_other _ _ _ _ (blk_lt hbR) (by omega)).trans hbR
  have H1 := Lib.hid (And.intro hset (And.intro hbR1 (And.intro (hst.kpt hkp) (And.intro (hb1'.trans (Lib.below_setCells_w (Nat.le_refl _) L1 0 W1)) ((KpA.below (N := B) (hb1'.mono (Nat.le_of_eq hB))).trans hka)))))
  clear hL1 hset hkp hka hbR1 hst hb1 hb1' hbB hbR
  go_upto_region 2 with (with_reducible refine wpList_store_mid rfl 33 _ _ rfl B 0 L1.toArray rfl rfl HT1.out HI1.out (all_oneCell_toArray HO1.out) ?_)
  obtain ⟨M, hM⟩ : ∃ M, stoC S X1 = M := ⟨_, rfl⟩
  have hrg : (W1.setCells B 0 L1).rangeAt B 0 M := by rw [← hM]; exact StBx.range5 (B := B) (S := S) (X := X1) (n := n) H1.out.1
  have hM5 : (Tryz.prog.info? 31).map (·.size) = some M.length := by rw [← hM]; exact info_sh5
  have HM := Lib.hid (And.intro hM (And.intro hrg hM5))
  clear hM hrg hM5
  have HKX := Lib.hid (show KpX K w (W1.setCells B 0 L1) from fun g C t hg _ _ => H1.out.2.2.2.1.block g (by have := blk_lt hg; omega))
  obtain ⟨W2, hW2⟩ : ∃ W2, W1.setCells B 0 L1 = W2 := ⟨_, rfl⟩
  rw [hW2] at H1 HM HKX ⊢
  clear hW2 HT1 HI1 HO1 HR HC H0 HIL
  go_upto_region 3 with (with_reducible refine wpList_load_mid rfl 31 _ rfl B 0 rfl M _ HM.out.2.1 Tryz.underlying31 rfl HM.out.2.2 ?_)
  go_loopw [12] (fun i wr => ∃ (k : Nat), k ≤ 5 ∧ i = .int .i64 (k : Int) ∧ Hid (∃ Y, StBx B (fun i => if i < k then S' i else S i) Y (Pl.leftAt n k) wr ∧ StF B wr (fun i => if i < k then S' i else S i) Y ∧ (∀ i, k ≤ i → Y i = X1 i) ∧ StBx (B + 1) (fun _ => Pl.noSh) (fun _ => ⟨none, 0, none, 0⟩) 0 wr ∧ J k wr ∧ Below B0 w wr ∧ KpX K w wr)) (fun i _ => 5 - (intOf i).toNat)
  case atStart =>
    refine ⟨0, by omega, rfl, X1, ?_⟩
    simp only [Nat.not_lt_zero, if_false, Pl.leftAt_zero]
    exact ⟨H1.out.1, H1.out.2.2.1, fun _ _ => trivial, H1.out.2.1, HH.out.2.1 0 w W2 HH.out.2.2.1 (by rw [hB]; exact H1.out.2.2.2.2), H1.out.2.2.2.1.mono (by omega), HKX.out⟩
  case round =>
    obtain ⟨k, hk, rfl, HKL⟩ := hrel
    by_cases hk5 : k < 5
    · have hidx := fun W => index_sh S X1 hk5 W
      rw [HM.out.1] at hidx
      obtain ⟨Y, hbx, hst, hY, hrx, hJk, hbel, hkx⟩ := HKL.out
      have hx := hst k hk5
      simp only [Nat.lt_irrefl, if_false] at hx
      rw [hY k (Nat.le_refl k)] at hx
      have hcl := HH.out.2.2.2.1 k hk5
      obtain ⟨x, hXk⟩ : ∃ x, X1 k = x := ⟨_, rfl⟩
      obtain ⟨s, hSk⟩ : ∃ s, S k = s := ⟨_, rfl⟩
      rw [hXk, hSk] at hidx
      rw [hXk] at hx
      rw [hSk] at hx hcl
      obtain ⟨A, c, A', c'⟩ := x
      simp only at hidx hx
      have HB := Lib.hid (And.intro hbx (And.intro hst (And.intro hY (And.intro hrx (And.intro hJk (And.intro hbel (And.intro hkx (And.intro hcl hx))))))))
      obtain ⟨m, hm⟩ : ∃ m, Pl.leftAt n k = m := ⟨_, rfl⟩
      have hm1 := Pl.leftAt_succ n k
      have hmi := Pl.leftAt_in hn k
      rw [hm] at hm1 hmi
      unfold Pl.I64 at hmi
      have hcb := hbx.cl
      have hfb := hbx.fz 10
      rw [hm] at hcb
      clear hbx hst hY hrx hJk hbel hkx hcl hx hXk
      go_upto_region 5 with (fail)
      obtain ⟨T, hT⟩ : ∃ T, wr.heap.size = T := ⟨_, rfl⟩
      have hTB : B + 1 < T := by rw [← hT]; exact blk_lt HB.out.2.2.2.1
      generalize hW3 : World.alloc wr _ = W3
      have hz3 : W3.heap[T]? = some (.cells #[.slice A s.objs.length c, .slice A' s.fates.length c'] 26 (0, 0)) := by rw [← hW3, ← hT]; exact heap_alloc_new _ _
      have hb3 : Below wr.heap.size wr W3 := by rw [← hW3]; exact (Below.refl _ _).alloc (Nat.le_refl _) _
      have hs3 : W3.heap.size = T + 1 := by rw [← hW3]; simp [hT]
      have hc3 : W3.cell? ⟨B, 10, none⟩ = some (.int .i64 m) := (hb3.cell (p := ⟨B, 10, none⟩) (by show B < _; omega)).trans hcb
      have hf3 : W3.frozen? ⟨B, 10, none⟩ = false := (hb3.frozen (p := ⟨B, 10, none⟩) (by show B < _; omega)).trans hfb
      have hbx3 := HB.out.1.keep hb3
      have hq0 : W3.cell? ⟨T, 0, none⟩ = some (.slice A s.objs.length c) := by rw [cell_row W3 T 0 _ _ hz3]; rfl
      have hq1 : W3.cell? ⟨T, 1, none⟩ = some (.slice A' s.fates.length c') := by rw [cell_row W3 T 1 _ _ hz3]; rfl
      have hgone : (Pl.leftAt n k == 0) = (m == 0) := by rw [hm]
      clear hcb hfb hW3
      simp only [hT]
      by_cases h0 : 0 < m
      case' pos =>
        rw [if_pos h0] at hm1
        have hwr : IntKind.i64.wrap (m - 1) = m - 1 := by simp [IntKind.wrap, go_sem]; omega
        go_upto_region 8 with (fail)
        have hbx4 := hbx3.setLeft (m - 1)
        have hkt : KpT B W3 (W3.setCell ⟨B, 10, none⟩ (.int .i64 (m - 1))) := hbx3.kpt _ _
        have hka : KpA B W3 (W3.setCell ⟨B, 10, none⟩ (.int .i64 (m - 1))) := KpA.set hbx3 (Nat.le_refl _) (.inl rfl) _ _
        have hbb : Below B W3 (W3.setCell ⟨B, 10, none⟩ (.int .i64 (m - 1))) := (Below.refl B W3).setCell (p := ⟨B, 10, none⟩) (Nat.le_refl B) _
        have hq0' := (World.cell?_setCell_far W3 ⟨B, 10, none⟩ ⟨T, 0, none⟩ (.int .i64 (m - 1)) (by simp; omega)).trans hq0
        have hq1' := (World.cell?_setCell_far W3 ⟨B, 10, none⟩ ⟨T, 1, none⟩ (.int .i64 (m - 1)) (by simp; omega)).trans hq1
        have hrx4 : StBx (B + 1) (fun _ => Pl.noSh) (fun _ => ⟨none, 0, none, 0⟩) 0 (W3.setCell ⟨B, 10, none⟩ (.int .i64 (m - 1))) := (Below.heap_setCell _ _ _ _ (by show B + 1 ≠ B; omega)).trans (HB.out.2.2.2.1.keep hb3)
        have hsz4 : (W3.setCell ⟨B, 10, none⟩ (.int .i64 (m - 1))).heap.size = T + 1 := by simpa [World.setCell] using hs3
        generalize hW4 : World.setCell W3 _ _ = W4
        rw [hW4] at hbx4 hkt hka hbb hq0' hq1' hrx4 hsz4
        rw [← hm1] at hbx4
        clear hW4 hwr
      case' neg =>
        rw [if_neg h0] at hm1
        go_upto_region 8 with (fail)
        obtain ⟨W4, hW4⟩ : ∃ W4, W4 = W3 := ⟨_, rfl⟩
        have hbx4 : StBx B (fun i => if i < k then S' i else S i) Y (Pl.leftAt n k) W4 := by rw [hW4]; exact hbx3
        have hkt : KpT B W3 W4 := by rw [hW4]; exact KpT.refl _ _
        have hka : KpA B W3 W4 := by rw [hW4]; exact KpA.below (Below.refl _ _)
        have hbb : Below B W3 W4 := by rw [hW4]; exact Below.refl _ _
        have hq0' : W4.cell? ⟨T, 0, none⟩ = some (.slice A s.objs.length c) := by rw [hW4]; exact hq0
        have hq1' : W4.cell? ⟨T, 1, none⟩ = some (.slice A' s.fates.length c') := by rw [hW4]; exact hq1
        have hrx4 : StBx (B + 1) (fun _ => Pl.noSh) (fun _ => ⟨none, 0, none, 0⟩) 0 W4 := by rw [hW4]; exact HB.out.2.2.2.1.keep hb3
        rw [hm, ← hm1] at hbx4
        have hsz4 : W4.heap.size = T + 1 := by rw [hW4]; exact hs3
        rw [← hW4]
        clear hW4
      all_goals
        clear hq0 hq1 hc3 hf3
        have hsz := HB.out.2.2.2.2.2.1.size
        have hb4 : Below B0 w W4 := (HB.out.2.2.2.2.2.1.trans (hb3.mono (by omega))).trans (hbb.mono (by omega))
        have hkx4 : KpX K w W4 := (HB.out.2.2.2.2.2.2.1.bel (Nat.le_refl _) hsz (hb3.mono hsz)).bel (B := B) (by omega) (by omega) hbb
        have hJ4 := HH.out.2.1 k wr W4 HB.out.2.2.2.2.1 (by rw [hB]; exact (KpA.below hb3).trans hka)
        have hx4 : ShF B W4 s ⟨A, c, A', c'⟩ := HB.out.2.2.2.2.2.2.2.2.kpt ((KpT.below hb3).trans hkt)
        have hst4 := HB.out.2.1.kpt ((KpT.below hb3).trans hkt)
        have hcall4 := HB.out.2.2.2.2.2.2.2.1 W4 ⟨A, c, A', c'⟩ (by omega) hb4 hJ4 (by rw [hB]; exact hx4)
        simp only at hcall4
        rw [hgone] at hcall4
        have HW := Lib.hid (And.intro hcall4 (And.intro hb4 (And.intro hkx4 (And.intro hst4 (And.intro hbx4 (And.intro hrx4 (And.intro hm HB.out.2.2.1)))))))
        clear hcall4 hb4 hkx4 hJ4 hx4 hst4 hbb hka hkt hbx4 hrx4 hbx3 hz3 hb3 hs3 hgone hm1 hm HB hst
        go_wp2_with fail
        (with_reducible refine HW.out.1.mono ?_)
        rintro e W5 ⟨x', rfl, hx5, hJ5, hb5, hkx5⟩
        have hKN := HH.out.2.2.2.2
        rw [hB] at hKN
        have hbx5 := hkx5.sto hKN (Nat.le_refl B) HW.out.2.2.2.2.1
        have hrx5 := hkx5.sto hKN (by omega : B ≤ B + 1) HW.out.2.2.2.2.2.1
        have hst5 := HW.out.2.2.2.1.kpt (hkx5.kpt hKN hb5.size)
        have e0 := hbx5.c0 hk5
        have e1 := hbx5.c1 hk5
        have ef := hbx5.fz
        have hkk : (k : Int) < 5 := by omega
        have hk0 : (0 : Int) ≤ (k : Int) := by omega
        have HV := Lib.hid (And.intro hbx5 (And.intro hrx5 (And.intro hst5 (And.intro hx5 (And.intro hJ5 (And.intro (HW.out.2.1.trans hb5) hkx5))))))
        clear hbx5 hrx5 hst5 hx5 hJ5 hb5 hkx5 hq0' hq1'
        go_wp2_with fail
        have hfun : upd (fun i => if i < k then S' i else S i) k (S' k) = fun i => if i < k + 1 then S' i else S i := by
          funext i
          unfold upd
          by_cases e : i = k
          · subst e
            rw [if_pos rfl, if_pos (by omega)]
          · rw [if_neg e]
            show (if i < k then S' i else S i) = _
            by_cases h : i < k
            · rw [if_pos h, if_pos (by omega)]
            · rw [if_neg h, if_neg (by omega)]
        have hset := HV.out.1.set hk5 (S' k) x'
        rw [hfun] at hset
        have hkt6 := HV.out.1.okF (b := B) (k := k) (S' k) x'
        have hka6 : KpA B W5 ((W5.setCell ⟨B, k * 2, none⟩ (.slice x'.A (S' k).objs.length x'.c)).setCell ⟨B, k * 2 + 1, none⟩ (.slice x'.A' (S' k).fates.length x'.c')) := (KpA.set HV.out.1 (Nat.le_refl _) (.inl rfl) _ _).trans (KpA.set (set_at _ _ _ _ _ _ HV.out.1) (Nat.le_refl _) (.inl rfl) _ _)
        have hbb6 : Below B W5 ((W5.setCell ⟨B, k * 2, none⟩ (.slice x'.A (S' k).objs.length x'.c)).setCell ⟨B, k * 2 + 1, none⟩ (.slice x'.A' (S' k).fates.length x'.c')) := ((Below.refl B W5).setCell (p := ⟨B, k * 2, none⟩) (Nat.le_refl B) _).setCell (p := ⟨B, k * 2 + 1, none⟩) (Nat.le_refl B) _
        have hst6 : StF B ((W5.setCell ⟨B, k * 2, none⟩ (.slice x'.A (S' k).objs.length x'.c)).setCell ⟨B, k * 2 + 1, none⟩ (.slice x'.A' (S' k).fates.length x'.c')) (fun i => if i < k + 1 then S' i else S i) (upd Y k x') := by
          intro i hi
          by_cases e : i = k
          · subst e
            rw [upd_same]
            simp only [Nat.lt_succ_self, if_true]
            have h := HV.out.2.2.2.1
            rw [hB] at h
            exact h.kpt hkt6
          · rw [upd_other _ _ e]
            have h := (HV.out.2.2.1 i hi).kpt hkt6
            by_cases h1 : i < k
            · simp only [h1, if_true] at h
              simp only [show i < k + 1 by omega, if_true]
              exact h
            · simp only [h1, if_false] at h
              simp only [show ¬ i < k + 1 by omega, if_false]
              exact h
        have hrx6 : StBx (B + 1) (fun _ => Pl.noSh) (fun _ => ⟨none, 0, none, 0⟩) 0 ((W5.setCell ⟨B, k * 2, none⟩ (.slice x'.A (S' k).objs.length x'.c)).setCell ⟨B, k * 2 + 1, none⟩ (.slice x'.A' (S' k).fates.length x'.c')) := ((Below.heap_setCell _ _ _ _ (by show B + 1 ≠ B; omega)).trans (Below.heap_setCell _ _ _ _ (by show B + 1 ≠ B; omega))).trans HV.out.2.1
        have hsz5 := HV.out.2.2.2.2.2.1.size
        have hsW5 : B ≤ W5.heap.size := by have := blk_lt HV.out.1; omega
        have HE := Lib.hid (And.intro hset (And.intro hst6 (And.intro (fun (i : Nat) (hi : k + 1 ≤ i) => (upd_other Y x' (by omega : i ≠ k)).trans (HW.out.2.2.2.2.2.2.2 i (by omega))) (And.intro hrx6 (And.intro (HH.out.2.1 (k + 1) W5 _ HV.out.2.2.2.2.1 (by rw [hB]; exact hka6)) (And.intro (HV.out.2.2.2.2.2.1.trans (hbb6.mono (by omega))) ((HW.out.2.2.1.trans HV.out.2.2.2.2.2.2).bel (B := B) (by omega) hsW5 hbb6)))))))
        clear hset hkt6 hka6 hbb6 hst6 hrx6 hfun e0 e1 ef
        go_roundw
        case rel => exact ⟨k + 1, by omega, ret_i (by omega), _, HE.out⟩
        case measure => simp only [intOf]; omega
    · obtain rfl : k = 5 := by omega
      obtain ⟨Y, hbx, hst, hY, hrx, hJk, hbel, hkx⟩ := HKL.out
      have hst' : StF B wr S' Y := fun i hi => by
        have h := hst i hi
        simp only [hi, if_true] at h
        exact h
      have hbx' : StBx B S' Y (Pl.leftAt n 5) wr := by
        refine hbx.trans ?_
        unfold stoL
        rw [stoC_ext (S' := S') (X' := Y) fun i hi => ⟨by simp only [hi, if_true], rfl⟩]
      obtain ⟨L5, hL5⟩ : ∃ L5, stoL S' Y (Pl.leftAt n 5) = L5 := ⟨_, rfl⟩
      have hrg := hbx'.range
      have hin : (Tryz.prog.info? 33).map (·.size) = some L5.toArray.size := by rw [List.size_toArray, ← hL5]; exact info_sto
      have hin2 : (Tryz.prog.info? 33).map (·.size) = some L5.length := by rw [← hL5]; exact info_sto
      have hone : ∀ v ∈ L5, v.oneCell' = true := by rw [← hL5]; exact stoL_one S' Y _
      have hth : wr.there (B + 1) 0 L5.toArray.size := thereL hrx (by rw [← hL5]; exact Nat.le_refl 11)
      rw [hL5] at hrg
      have hsz := hbel.size
      have HE := Lib.hid (And.intro hL5 (And.intro hrg (And.intro hin (And.intro hin2 (And.intro hone (And.intro hth (And.intro hrx (And.intro hst' (And.intro hbel (And.intro hkx hJk))))))))))
      clear hL5 hrg hin hin2 hone hth hrx hst hst' hbel hkx hJk hbx hbx' HM hY
      go_wp2_with first
        | with_reducible refine wpList_load_mid rfl 33 _ rfl B 0 rfl L5 _ HE.out.2.1 Tryz.underlying33 rfl HE.out.2.2.2.1 ?_
        | with_reducible refine wpList_store_mid rfl 33 _ _ rfl (B + 1) 0 L5.toArray rfl rfl HE.out.2.2.2.2.2.1 HE.out.2.2.1 (all_oneCell_toArray HE.out.2.2.2.2.1) ?_
      refine bodyPost_ret (v := .agg L5.toArray) (results_sto1 (B := B + 1) rfl rfl (World.rangeAt_setCells_same _ _ _ _ (by have := HE.out.2.2.2.2.2.1; simpa using this)) HE.out.2.2.2.1) rfl ?_
      have hbb7 : Below (B + 1) wr (wr.setCells (B + 1) 0 L5) := Lib.below_setCells_w (Nat.le_refl _) L5 0 wr
      refine ⟨Y, by rw [HE.out.1], HE.out.2.2.2.2.2.2.2.1.kpt (HE.out.2.2.2.2.2.2.1.kpts _), HH.out.2.1 5 wr _ HE.out.2.2.2.2.2.2.2.2.2.2 (by rw [hB]; exact KpA.sets HE.out.2.2.2.2.2.2.1 (by omega) (.inl rfl) 0 L5), HE.out.2.2.2.2.2.2.2.2.1.trans (hbb7.mono (by omega)), ?_⟩
      exact HE.out.2.2.2.2.2.2.2.2.2.1.bel (B := B) (by omega) (by omega) (hbb7.mono (by omega))
end Go.Proofs.YtdnebgilkfafhaaGreatDoor
namespace Go.Proofs.YtdnebgilkfafhaaGreatDoor
open Go.RowKit
set_option linter.unusedVariables false
set_option linter.unusedSimpArgs false
/-- The first error of k answers, but one. -/
def fstK (but : Nat) (er : Nat → Nat) (k : Nat) : Nat := Pl.firstE but ((List.range k).map er)
theorem fstK_zero (but : Nat) (er : Nat → Nat) : fstK but er 0 = 0 := rfl
theorem fstK_succ (but : Nat) (er : Nat → Nat) (k : Nat) : fstK but er (k + 1) = if fstK but er k = 0 ∧ er k ≠ but then er k else fstK but er k := by
  unfold fstK Pl.firstE
  rw [List.range_succ, List.map_append, List.foldl_append]
  rfl
theorem info_shf : (Tryz.prog.info? 26).map (·.size) = some 2 := by kernel_rfl
/-- What a closure of putAll sees: the name, the function that tells the bytes, the first error. -/
structure PutJ (P P1 P2 : Nat) (nm : List UInt8) (dv : Value) (but : Nat) (er : Nat → Nat) (k : Nat) (W : World) : Prop where
  nm : W.heap[P]? = some (.cells #[.string ⟨nm.toArray⟩] 9 (0, 0))
  dt : W.heap[P1]? = some (.cells #[dv] 74 (0, 0))
  fs : W.heap[P2]? = some (.cells #[.int .i64 ((fstK but er k : Nat) : Int)] 35 (0, 0))
theorem keepB {W W' : World} {g : Nat} {o : Obj} (h : W.heap[g]? = some o) (hb : Below W.heap.size W W') : W'.heap[g]? = some o := (hb.block g (blk_lt h)).trans h
theorem PutJ.keep {P P1 P2 : Nat} {nm : List UInt8} {dv : Value} {but : Nat} {er : Nat → Nat} {k : Nat} {W W' : World} (h : PutJ P P1 P2 nm dv but er k W) (hb : Below W.heap.size W W') : PutJ P P1 P2 nm dv but er k W' :=
  ⟨keepB h.nm hb, keepB h.dt hb, keepB h.fs hb⟩
set_option maxRecDepth 100000 in
set_option maxHeartbeats 4000000 in
theorem putAll1_any (P P1 P2 B0 : Nat) (nm : List UInt8) (G : FuncId) (gb : Array Value) (D : Nat → List UInt8) (er : Nat → Nat) (k : Nat) (hk : k < 5) (s : Pl.Shelf) (x : ShX) (left : Int) (N : Nat) (W : World) (hNW : N ≤ W.heap.size) (hJ : PutJ P P1 P2 nm (.func (.func G) #[] gb) 0 er k W) (hx : ShF N W s x) (hfit : Pl.FitG s.objs s.fates) (hP : P < B0) (hP1 : P1 < B0) (hP2 : B0 ≤ P2) (hPN : P2 < N)
    (hG : ∀ (a : Value) (V : World), (callFunc G (#[a] ++ gb)).run Tryz.prog V = .ok (.enter G (#[a] ++ gb)) V)
    (hD : ∀ V, Below W.heap.size W V → Calls Tryz.prog G (#[.int .i64 (k : Int)] ++ gb) V (Ret (.string ⟨(D k).toArray⟩) V)) (hDl : (D k).length ≤ 1000000)
    (her : (Pl.one (Pl.putS nm (D k)) 17 left s).2 = er k) :
    Calls Tryz.prog 75 #[.int .i64 (k : Int), .agg #[.slice x.A s.objs.length x.c, .slice x.A' s.fates.length x.c'], .bool (left == 0), .pointer (some ⟨P, 0, none⟩), .pointer (some ⟨P1, 0, none⟩), .pointer (some ⟨P2, 0, none⟩)] W
      (fun e W' => ∃ x', e = .returned (.agg #[.slice x'.A (Pl.one (Pl.putS nm (D k)) 17 left s).1.objs.length x'.c, .slice x'.A' (Pl.one (Pl.putS nm (D k)) 17 left s).1.fates.length x'.c']) ∧ ShF N W' (Pl.one (Pl.putS nm (D k)) 17 left s).1 x' ∧ PutJ P P1 P2 nm (.func (.func G) #[] gb) 0 er (k + 1) W' ∧ Below B0 W W' ∧ KpX (fun g => g = P2) W W') := by
  obtain ⟨dk, hdk⟩ : ∃ dk, D k = dk := ⟨_, rfl⟩
  rw [hdk] at her hD hDl ⊢
  clear hdk
  obtain ⟨A, c, A', c'⟩ := x
  obtain ⟨⟨so, sf⟩, hse⟩ : ∃ s', s = s' := ⟨_, rfl⟩
  subst hse
  obtain ⟨R, hR⟩ : ∃ R, Pl.one (Pl.putS nm dk) 17 left ⟨so, sf⟩ = R := ⟨_, rfl⟩
  rw [hR] at her ⊢
  unfold Pl.one Pl.putS at hR
  obtain ⟨a, ha⟩ : ∃ a, so.length = a := ⟨_, rfl⟩
  obtain ⟨b, hb⟩ : ∃ b, sf.length = b := ⟨_, rfl⟩
  have hpu := fun V h1 h2 => put_all A A' c c' so sf nm dk V a b ha hb h1 h2 hfit hDl
  simp only at hx hR ⊢
  unfold ShF at hx
  simp only [ha, hb] at hx ⊢
  have HH := Lib.hid (And.intro hR (And.intro her (And.intro hpu (And.intro hD (And.intro hJ (And.intro hx (And.intro hfit (And.intro ha hb))))))))
  clear hR her hpu hD hJ hx hfit ha hb
  obtain ⟨f, hf⟩ : ∃ f, fstK 0 er k = f := ⟨_, rfl⟩
  obtain ⟨q, hq⟩ : ∃ q, er k = q := ⟨_, rfl⟩
  have HQ := Lib.hid (And.intro hf hq)
  go_enter Tryz.func75, Tryz.ntmps75
  go_upto_region 2 with (fail)
  obtain ⟨T, hT⟩ : ∃ T, W.heap.size = T := ⟨_, rfl⟩
  generalize hV : World.alloc (World.alloc W _) _ = V
  have hzT : V.heap[T]? = some (.cells #[.slice A a c, .slice A' b c'] 26 (0, 0)) := by rw [← hV, ← hT]; exact (Below.heap_alloc _ _ _ (by simp)).trans (heap_alloc_new _ _)
  have hzR : V.heap[T + 1]? = some (.cells #[.slice none 0 0, .slice none 0 0] 26 (0, 0)) := by rw [← hV, ← hT]; exact heap_alloc_2 _ _ _
  have hbV : Below T W V := by rw [← hV, ← hT]; exact ((Below.refl _ _).alloc (Nat.le_refl _) _).alloc (by simp) _
  have hJV := HH.out.2.2.2.2.1.keep (by rw [hT]; exact hbV)
  simp only [hT]
  have t0 : V.cell? ⟨T, 0, none⟩ = some (.slice A a c) := by rw [cell_row V T 0 _ _ hzT]; rfl
  have t1 : V.cell? ⟨T, 1, none⟩ = some (.slice A' b c') := by rw [cell_row V T 1 _ _ hzT]; rfl
  have n0 : V.cell? ⟨P, 0, none⟩ = some (.string ⟨nm.toArray⟩) := by rw [cell_row V P 0 _ _ hJV.nm]; rfl
  have d0 : V.cell? ⟨P1, 0, none⟩ = some (.func (.func G) #[] gb) := by rw [cell_row V P1 0 _ _ hJV.dt]; rfl
  have f0 : V.cell? ⟨P2, 0, none⟩ = some (.int .i64 (f : Int)) := by rw [cell_row V P2 0 _ _ hJV.fs, hf]; rfl
  have ff : V.frozen? ⟨P2, 0, none⟩ = false := frozen_of V P2 0 _ _ hJV.fs
  have HV := Lib.hid (And.intro hzT (And.intro hzR (And.intro hbV hJV)))
  clear hV hzT hzR hbV hJV hf hq
  have hTP : P2 < T := by omega
  have hWs : T ≤ V.heap.size := by rw [← hT]; exact HV.out.2.2.1.size
  by_cases h0 : left = 0
  case' pos =>
    have hl : (left == 0) = true := by simp [h0]
    simp only [hl]
    have hRe : R = (⟨so, sf⟩, 17) := by rw [← HH.out.1, if_pos h0]
    have hqe : q = 17 := by rw [← HQ.out.2, ← HH.out.2.1, hRe]
    go_upto_region 4 with (fail)
    obtain ⟨V4, hV4⟩ : ∃ V4, V4 = V := ⟨_, rfl⟩
    obtain ⟨e4, he4⟩ : ∃ e4 : Nat, e4 = 17 := ⟨_, rfl⟩
    have hx4 := HH.out.2.2.2.2.2.1
    have hb4 : Below T W V4 := by rw [hV4]; exact HV.out.2.2.1
    have hT4 : V4.heap[T]? = some (.cells #[.slice A a c, .slice A' b c'] 26 (0, 0)) := by rw [hV4]; exact HV.out.1
    have hR4 : V4.heap[T + 1]? = some (.cells #[.slice none 0 0, .slice none 0 0] 26 (0, 0)) := by rw [hV4]; exact HV.out.2.1
    have hJ4 : PutJ P P1 P2 nm (.func (.func G) #[] gb) 0 er k V4 := by rw [hV4]; exact HV.out.2.2.2
    have hs4 : ShF N V4 R.1 ⟨A, c, A', c'⟩ := by
      have h : ShF N W ⟨so, sf⟩ ⟨A, c, A', c'⟩ := by unfold ShF; simp only [HH.out.2.2.2.2.2.2.2.1, HH.out.2.2.2.2.2.2.2.2]; exact hx4
      rw [hRe]
      exact h.kpt (KpT.below (by rw [hT]; exact hb4))
    have hn4 : R.1.objs.length = a := by rw [hRe]; exact HH.out.2.2.2.2.2.2.2.1
    have hm4 : R.1.fates.length = b := by rw [hRe]; exact HH.out.2.2.2.2.2.2.2.2
    have hqq : q = e4 := by rw [hqe, he4]
    have he4' : (17 : Int) = (e4 : Int) := by omega
    rw [← hV4, he4']
    obtain ⟨n4, hn4'⟩ : ∃ z, z = a := ⟨_, rfl⟩
    obtain ⟨m4, hm4'⟩ : ∃ z, z = b := ⟨_, rfl⟩
    rw [← hn4'] at hT4 hn4
    rw [← hm4'] at hT4 hm4
    obtain ⟨A4, hA4⟩ : ∃ z, z = A := ⟨_, rfl⟩
    obtain ⟨c4, hc4⟩ : ∃ z, z = c := ⟨_, rfl⟩
    obtain ⟨A4', hA4'⟩ : ∃ z, z = A' := ⟨_, rfl⟩
    obtain ⟨c4', hc4'⟩ : ∃ z, z = c' := ⟨_, rfl⟩
    rw [← hA4, ← hc4, ← hA4', ← hc4'] at hT4 hs4
    have H4 := Lib.hid (And.intro hb4 (And.intro hT4 (And.intro hR4 (And.intro hJ4 (And.intro hs4 (And.intro hn4 (And.intro hm4 hqq)))))))
    clear t0 t1 n0 d0 f0 ff hl hRe hqe hV4 he4 he4' hx4 hb4 hT4 hR4 hJ4 hs4 hn4 hm4 hqq hn4' hm4' hA4 hc4 hA4' hc4' h0
  case' neg =>
    have hl : (left == 0) = false := by simp [h0]
    simp only [hl]
    go_upto_region 3 with (fail)
    have HD := Lib.hid HH.out.2.2.2.1
    have HG := Lib.hid hG
    have hTl : T < V.heap.size := blk_lt HV.out.1
    have hPl : P2 < V.heap.size := blk_lt HV.out.2.2.2.fs
    have hsl := (HH.out.2.2.2.2.2.1.1.at.below (by rw [hT]; exact HV.out.2.2.1.drew) : SlAt V.drew 4 A a c (objCs so))
    have hsf := (HH.out.2.2.2.2.2.1.2.at.below (by rw [hT]; exact HV.out.2.2.1.drew) : SlAt V.drew 1 A' b c' (ints sf))
    have HSL := Lib.hid (And.intro hsl hsf)
    clear hsl hsf
    have t0d : V.drew.cell? ⟨T, 0, none⟩ = some (.slice A a c) := t0
    have t1d : V.drew.cell? ⟨T, 1, none⟩ = some (.slice A' b c') := t1
    refine wp_region_held_drew (S := (fun w' => w'.cell? ⟨P, 0, none⟩ = some (.string ⟨nm.toArray⟩) ∧ w'.cell? ⟨P1, 0, none⟩ = some (.func (.func G) #[] gb))) (by kernel_rfl) (by exact ⟨n0, d0⟩) (fun hHeld => ?_)
    refine tk 1 (v := ?_) rfl ?_ hHeld ?_
    rotate_left
    · (intro w' hSw; obtain ⟨hS0, hS1⟩ := hSw; go_simp; try with_reducible rfl)
    simp only [Act.put, lay9]
    refine tk 2 (v := ?_) rfl ?_ hHeld ?_
    rotate_left
    · (intro w' hSw; obtain ⟨hS0, hS1⟩ := hSw; go_simp; try with_reducible rfl)
    simp only [Act.put, lay9]
    refine tk 3 (v := ?_) rfl ?_ hHeld ?_
    rotate_left
    · (intro w' hSw; obtain ⟨hS0, hS1⟩ := hSw; go_simp; try with_reducible rfl)
    simp only [Act.put, lay9]
    refine wpAnyH_ready (rs := [0, 4]) (by kernel_rfl) (by simp) (AllReadyH.cons rfl (fun K hK => ?wa) (AllReadyH.cons rfl (fun K hK => ?wb) AllReadyH.nil))
    case' wa =>
      go_simp
      refine hK.out _ _ hHeld (fun hHeld => ?_)
      clear hK K
      (try simp only [Act.put, lay9])
      refine wpAnyH_ready (rs := [4]) (by kernel_rfl) (by simp) (AllReadyH.cons rfl (fun K hK => ?_) AllReadyH.nil)
      go_simp
      (with_reducible refine (HD.out V.drew (by rw [hT]; exact HV.out.2.2.1.drew)).mono ?_)
      rintro e w1 ⟨rfl, rfl⟩
      refine hK.out _ _ hHeld (fun hHeld => ?_)
      clear hK K
      (try simp only [Act.put, lay9])
    case' wb =>
      go_simp
      (with_reducible refine (HD.out V.drew (by rw [hT]; exact HV.out.2.2.1.drew)).mono ?_)
      rintro e w1 ⟨rfl, rfl⟩
      refine hK.out _ _ hHeld (fun hHeld => ?_)
      clear hK K
      (try simp only [Act.put, lay9])
      refine wpAnyH_ready (rs := [0]) (by kernel_rfl) (by simp) (AllReadyH.cons rfl (fun K hK => ?_) AllReadyH.nil)
      go_simp
      refine hK.out _ _ hHeld (fun hHeld => ?_)
      clear hK K
      (try simp only [Act.put, lay9])
  case' wa | wb =>
    refine wpAnyH_ready (rs := [5]) (by kernel_rfl) (by simp) (AllReadyH.cons rfl (fun K hK => ?_) AllReadyH.nil)
    go_simp
    (with_reducible refine (HH.out.2.2.1 V.drew HSL.out.1 HSL.out.2).mono ?_)
    rintro e w5 ⟨v, rfl, ⟨A4, c4, A4', c4', rfl, ho4, hf4⟩, hb5⟩
    have hRe : R = (⟨(Pl.putA so sf nm dk).1, (Pl.putA so sf nm dk).2.1⟩, (Pl.putA so sf nm dk).2.2) := by rw [← HH.out.1, if_neg h0]
    obtain ⟨e4, he4⟩ : ∃ e4, (Pl.putA so sf nm dk).2.2 = e4 := ⟨_, rfl⟩
    have hqq : q = e4 := by rw [← HQ.out.2, ← HH.out.2.1, hRe, ← he4]
    obtain ⟨n4, hn4⟩ : ∃ n4, (Pl.putA so sf nm dk).1.length = n4 := ⟨_, rfl⟩
    obtain ⟨m4, hm4⟩ : ∃ m4, (Pl.putA so sf nm dk).2.1.length = m4 := ⟨_, rfl⟩
    have hs5 : ShF N w5 R.1 ⟨A4, c4, A4', c4'⟩ := by
      rw [hRe]
      exact (show ShF V.drew.heap.size w5 ⟨(Pl.putA so sf nm dk).1, (Pl.putA so sf nm dk).2.1⟩ ⟨A4, c4, A4', c4'⟩ from ⟨ho4, hf4⟩).weak (by show N ≤ V.heap.size; omega)
    have hn4R : R.1.objs.length = n4 := by rw [hRe]; exact hn4
    have hm4R : R.1.fates.length = m4 := by rw [hRe]; exact hm4
    have hbV5 : Below T W w5 := HV.out.2.2.1.drew.trans (hb5.mono hWs)
    have hbVV : Below V.heap.size V w5 := (Below.refl _ _).drew.trans hb5
    have hzT5 := keepB HV.out.1 hbVV
    have hzR5 := keepB HV.out.2.1 hbVV
    have hJ5 := HV.out.2.2.2.keep hbVV
    have y0 : w5.cell? ⟨T, 0, none⟩ = some (.slice A a c) := by rw [cell_row w5 T 0 _ _ hzT5]; rfl
    have y1 : w5.cell? ⟨T, 1, none⟩ = some (.slice A' b c') := by rw [cell_row w5 T 1 _ _ hzT5]; rfl
    have yf : ∀ i, w5.frozen? ⟨T, i, none⟩ = false := fun i => frozen_of w5 T i _ _ hzT5
    have yn : w5.cell? ⟨P, 0, none⟩ = some (.string ⟨nm.toArray⟩) := by rw [cell_row w5 P 0 _ _ hJ5.nm]; rfl
    have yd : w5.cell? ⟨P1, 0, none⟩ = some (.func (.func G) #[] gb) := by rw [cell_row w5 P1 0 _ _ hJ5.dt]; rfl
    simp only [he4, hn4, hm4]
    refine hK.out _ _ ⟨yn, yd⟩ (fun hHeld => ?_)
    clear hK K
    (try simp only [Act.put, lay9])
    refine tk 6 (v := ?_) rfl ?_ hHeld ?_
    rotate_left
    · (intro w' hSw; obtain ⟨hS0, hS1⟩ := hSw; go_simp; try with_reducible rfl)
    simp only [Act.put, lay9]
    refine tk 7 (v := ?_) rfl ?_ hHeld ?_
    rotate_left
    · (intro w' hSw; obtain ⟨hS0, hS1⟩ := hSw; go_simp; try with_reducible rfl)
    simp only [Act.put, lay9]
    refine tk 8 (v := ?_) rfl ?_ hHeld ?_
    rotate_left
    · (intro w' hSw; obtain ⟨hS0, hS1⟩ := hSw; go_simp; try with_reducible rfl)
    simp only [Act.put, lay9]
    refine wpAnyH_ready (rs := [9]) (by kernel_rfl) (by simp) (AllReadyH.cons rfl (fun K hK => ?_) AllReadyH.nil)
    go_simp
    refine hK.out _ _ ⟨((World.cell?_setCell_far _ _ _ _ (by simp; omega)).trans (World.cell?_setCell_far _ _ _ _ (by simp; omega))).trans hHeld.1, ((World.cell?_setCell_far _ _ _ _ (by simp; omega)).trans (World.cell?_setCell_far _ _ _ _ (by simp; omega))).trans hHeld.2⟩ (fun hHeld => ?_)
    clear hK K
    (try simp only [Act.put, lay9])
    refine wpAnyH_ready (rs := [10]) (by kernel_rfl) (by simp) (AllReadyH.cons rfl (fun K hK => ?_) AllReadyH.nil)
    go_simp
    refine hK.out _ _ hHeld (fun hHeld => ?_)
    clear hK K
    (try simp only [Act.put, lay9])
    refine wpAnyH_done (by kernel_rfl) ?_ _
    have hT4 := set_at _ T 1 _ (.slice A4' m4 c4') _ (set_at _ T 0 _ (.slice A4 n4 c4) _ hzT5)
    have hR4 : ((w5.setCell ⟨T, 0, none⟩ (.slice A4 n4 c4)).setCell ⟨T, 1, none⟩ (.slice A4' m4 c4')).heap[T + 1]? = some (.cells #[.slice none 0 0, .slice none 0 0] 26 (0, 0)) := ((Below.heap_setCell _ _ _ _ (by show T + 1 ≠ T; omega)).trans (Below.heap_setCell _ _ _ _ (by show T + 1 ≠ T; omega))).trans hzR5
    have hkt4 : KpT N w5 ((w5.setCell ⟨T, 0, none⟩ (.slice A4 n4 c4)).setCell ⟨T, 1, none⟩ (.slice A4' m4 c4')) := (KpT.set hzT5 (by decide) (by decide) _ _).trans (KpT.set (set_at _ _ _ _ _ _ hzT5) (by decide) (by decide) _ _)
    have hs4 := hs5.kpt hkt4
    have hb4 : Below T W ((w5.setCell ⟨T, 0, none⟩ (.slice A4 n4 c4)).setCell ⟨T, 1, none⟩ (.slice A4' m4 c4')) := (hbV5.setCell (p := ⟨T, 0, none⟩) (Nat.le_refl T) _).setCell (p := ⟨T, 1, none⟩) (Nat.le_refl T) _
    have hJ4 : PutJ P P1 P2 nm (.func (.func G) #[] gb) 0 er k ((w5.setCell ⟨T, 0, none⟩ (.slice A4 n4 c4)).setCell ⟨T, 1, none⟩ (.slice A4' m4 c4')) := by
      have hj : ∀ g, g < T → ((w5.setCell ⟨T, 0, none⟩ (.slice A4 n4 c4)).setCell ⟨T, 1, none⟩ (.slice A4' m4 c4')).heap[g]? = w5.heap[g]? := fun g hg => (Below.heap_setCell _ _ _ _ (by show g ≠ T; omega)).trans (Below.heap_setCell _ _ _ _ (by show g ≠ T; omega))
      exact ⟨(hj P (by omega)).trans hJ5.nm, (hj P1 (by omega)).trans hJ5.dt, (hj P2 (by omega)).trans hJ5.fs⟩
    generalize hV4 : World.setCell (World.setCell w5 _ _) _ _ = V4
    rw [hV4] at hT4 hR4 hs4 hb4 hJ4
    have H4 := Lib.hid (And.intro hb4 (And.intro hT4 (And.intro hR4 (And.intro hJ4 (And.intro hs4 (And.intro hn4R (And.intro hm4R hqq)))))))
    clear t0 t1 n0 d0 f0 ff hl hRe hqq hV4 hT4 hR4 hkt4 hs4 hb4 hJ4 hn4R hm4R hs5 he4 hn4 hm4 ho4 hf4 hb5 hbV5 hbVV hzT5 hzR5 hJ5 y0 y1 yf yn yd hHeld t0d t1d h0 HD HG HSL
  all_goals
    have t0 : V4.cell? ⟨T, 0, none⟩ = some (.slice A4 n4 c4) := by rw [cell_row V4 T 0 _ _ H4.out.2.1]; rfl
    have t1 : V4.cell? ⟨T, 1, none⟩ = some (.slice A4' m4 c4') := by rw [cell_row V4 T 1 _ _ H4.out.2.1]; rfl
    have r0 : V4.cell? ⟨T + 1, 0, none⟩ = some (.slice none 0 0) := by rw [cell_row V4 (T + 1) 0 _ _ H4.out.2.2.1]; rfl
    have r1 : V4.cell? ⟨T + 1, 1, none⟩ = some (.slice none 0 0) := by rw [cell_row V4 (T + 1) 1 _ _ H4.out.2.2.1]; rfl
    have rf : ∀ i, V4.frozen? ⟨T + 1, i, none⟩ = false := fun i => frozen_of V4 (T + 1) i _ _ H4.out.2.2.1
    have hsn := fstK_succ 0 er k
    rw [HQ.out.1, HQ.out.2] at hsn
    have hq4 := H4.out.2.2.2.2.2.2.2
    by_cases hf0 : f = 0
    · have f0 : V4.cell? ⟨P2, 0, none⟩ = some (.int .i64 0) := by rw [cell_row V4 P2 0 _ _ H4.out.2.2.2.1.fs, HQ.out.1, hf0]; rfl
      have ff : V4.frozen? ⟨P2, 0, none⟩ = false := frozen_of V4 P2 0 _ _ H4.out.2.2.2.1.fs
      have hsn4 : fstK 0 er (k + 1) = e4 := by
        rw [hsn, hf0, hq4]
        split
        · rfl
        · next h => by_cases h1 : e4 = 0; exact h1.symm; exact absurd ⟨rfl, h1⟩ h
      clear hf0 hsn hq4
      go_wp2_with fail
      refine bodyPost_ret (v := .agg #[.slice A4 n4 c4, .slice A4' m4 c4']) (by simp [results, Tryz.results75, go_sem, r0, r1]) rfl ?_
      have hfs := set_at _ P2 0 _ (.int .i64 (e4 : Int)) _ H4.out.2.2.2.1.fs
      obtain ⟨V5, hV5⟩ : ∃ V5, V4.setCell ⟨P2, 0, none⟩ (.int .i64 (e4 : Int)) = V5 := ⟨_, rfl⟩
      have ho5 : ∀ g, g ≠ P2 → V5.heap[g]? = V4.heap[g]? := fun g hg => by rw [← hV5]; exact Below.heap_setCell _ _ _ _ hg
      have hk5 : KpT N V4 V5 := by rw [← hV5]; exact KpT.set H4.out.2.2.2.1.fs (by decide) (by decide) _ _
      have hb5 : Below B0 W V5 := by rw [← hV5]; exact (H4.out.1.mono (by omega)).setCell (p := ⟨P2, 0, none⟩) hP2 _
      have hf5 : V5.heap[P2]? = some (.cells #[.int .i64 ((fstK 0 er (k + 1) : Nat) : Int)] 35 (0, 0)) := by rw [← hV5, hsn4]; exact hfs
      rw [hV5]
      clear hV5 hfs
      have hR5 := (ho5 (T + 1) (by omega)).trans H4.out.2.2.1
      have hk6 : KpT N V5 ((V5.setCell ⟨T + 1, 0, none⟩ (.slice A4 n4 c4)).setCell ⟨T + 1, 1, none⟩ (.slice A4' m4 c4')) := (KpT.set hR5 (by decide) (by decide) _ _).trans (KpT.set (set_at _ _ _ _ _ _ hR5) (by decide) (by decide) _ _)
      have ho6 : ∀ g, g < T + 1 → ((V5.setCell ⟨T + 1, 0, none⟩ (.slice A4 n4 c4)).setCell ⟨T + 1, 1, none⟩ (.slice A4' m4 c4')).heap[g]? = V5.heap[g]? := fun g hg => (Below.heap_setCell _ _ _ _ (by show g ≠ T + 1; omega)).trans (Below.heap_setCell _ _ _ _ (by show g ≠ T + 1; omega))
      refine ⟨⟨A4, c4, A4', c4'⟩, by rw [H4.out.2.2.2.2.2.1, H4.out.2.2.2.2.2.2.1], H4.out.2.2.2.2.1.kpt (hk5.trans hk6), ⟨?_, ?_, ?_⟩, (hb5.setCell (p := ⟨T + 1, 0, none⟩) (by show B0 ≤ T + 1; omega) _).setCell (p := ⟨T + 1, 1, none⟩) (by show B0 ≤ T + 1; omega) _, ?_⟩
      · exact (ho6 P (by omega)).trans ((ho5 P (by omega)).trans H4.out.2.2.2.1.nm)
      · exact (ho6 P1 (by omega)).trans ((ho5 P1 (by omega)).trans H4.out.2.2.2.1.dt)
      · exact (ho6 P2 (by omega)).trans hf5
      · intro g C t hg hne _
        have hgT : g < T := by rw [← hT]; exact blk_lt hg
        exact (ho6 g (by omega)).trans ((ho5 g hne).trans (H4.out.1.block g hgT))
    · have f0 : V4.cell? ⟨P2, 0, none⟩ = some (.int .i64 (f : Int)) := by rw [cell_row V4 P2 0 _ _ H4.out.2.2.2.1.fs, HQ.out.1]; rfl
      have hf1 : ((f : Int) == 0) = false := by simp; omega
      have hsn4 : fstK 0 er (k + 1) = f := by
        rw [hsn, if_neg (fun h => hf0 h.1)]
      clear hf0 hsn hq4
      go_wp2_with fail
      refine bodyPost_ret (v := .agg #[.slice A4 n4 c4, .slice A4' m4 c4']) (by simp [results, Tryz.results75, go_sem, r0, r1]) rfl ?_
      obtain ⟨V5, hV5⟩ : ∃ V5, V5 = V4 := ⟨_, rfl⟩
      have ho5 : ∀ g, g ≠ P2 → V5.heap[g]? = V4.heap[g]? := fun g hg => by rw [hV5]
      have hk5 : KpT N V4 V5 := by rw [hV5]; exact KpT.refl _ _
      have hb5 : Below B0 W V5 := by rw [hV5]; exact H4.out.1.mono (by omega)
      have hf5 : V5.heap[P2]? = some (.cells #[.int .i64 ((fstK 0 er (k + 1) : Nat) : Int)] 35 (0, 0)) := by rw [hV5, hsn4, ← HQ.out.1]; exact H4.out.2.2.2.1.fs
      rw [← hV5]
      clear hV5
      have hR5 := (ho5 (T + 1) (by omega)).trans H4.out.2.2.1
      have hk6 : KpT N V5 ((V5.setCell ⟨T + 1, 0, none⟩ (.slice A4 n4 c4)).setCell ⟨T + 1, 1, none⟩ (.slice A4' m4 c4')) := (KpT.set hR5 (by decide) (by decide) _ _).trans (KpT.set (set_at _ _ _ _ _ _ hR5) (by decide) (by decide) _ _)
      have ho6 : ∀ g, g < T + 1 → ((V5.setCell ⟨T + 1, 0, none⟩ (.slice A4 n4 c4)).setCell ⟨T + 1, 1, none⟩ (.slice A4' m4 c4')).heap[g]? = V5.heap[g]? := fun g hg => (Below.heap_setCell _ _ _ _ (by show g ≠ T + 1; omega)).trans (Below.heap_setCell _ _ _ _ (by show g ≠ T + 1; omega))
      refine ⟨⟨A4, c4, A4', c4'⟩, by rw [H4.out.2.2.2.2.2.1, H4.out.2.2.2.2.2.2.1], H4.out.2.2.2.2.1.kpt (hk5.trans hk6), ⟨?_, ?_, ?_⟩, (hb5.setCell (p := ⟨T + 1, 0, none⟩) (by show B0 ≤ T + 1; omega) _).setCell (p := ⟨T + 1, 1, none⟩) (by show B0 ≤ T + 1; omega) _, ?_⟩
      · exact (ho6 P (by omega)).trans ((ho5 P (by omega)).trans H4.out.2.2.2.1.nm)
      · exact (ho6 P1 (by omega)).trans ((ho5 P1 (by omega)).trans H4.out.2.2.2.1.dt)
      · exact (ho6 P2 (by omega)).trans hf5
      · intro g C t hg hne _
        have hgT : g < T := by rw [← hT]; exact blk_lt hg
        exact (ho6 g (by omega)).trans ((ho5 g hne).trans (H4.out.1.block g hgT))
end Go.Proofs.YtdnebgilkfafhaaGreatDoor
namespace Go.Proofs.YtdnebgilkfafhaaGreatDoor
open Go.RowKit
set_option linter.unusedVariables false
set_option linter.unusedSimpArgs false
def putSh (nm : List UInt8) (D : Nat → List UInt8) (S : Nat → Pl.Shelf) (n : Int) (i : Nat) : Pl.Shelf := (Pl.one (Pl.putS nm (D i)) 17 (Pl.leftAt n i) (S i)).1
def putEr (nm : List UInt8) (D : Nat → List UInt8) (S : Nat → Pl.Shelf) (n : Int) (i : Nat) : Nat := (Pl.one (Pl.putS nm (D i)) 17 (Pl.leftAt n i) (S i)).2
/-- Blocks made one behind the other. -/
def allocs (w : World) : List Go.Obj → World
  | [] => w
  | o :: r => allocs (w.alloc o) r
theorem allocs_size (w : World) : ∀ l : List Go.Obj, (allocs w l).heap.size = w.heap.size + l.length := by
  intro l
  induction l generalizing w with
  | nil => rfl
  | cons o r ih => rw [allocs, ih]; simp; omega
theorem allocs_below (w : World) : ∀ l : List Go.Obj, ∀ B, B ≤ w.heap.size → Below B w (allocs w l) := by
  intro l
  induction l generalizing w with
  | nil => intro B _; exact Below.refl _ _
  | cons o r ih => intro B hB; exact ((Below.refl B w).alloc hB o).trans (ih (w.alloc o) B (by simp; omega))
theorem allocs_get (w : World) : ∀ (l : List Go.Obj) (i : Nat), i < l.length → (allocs w l).heap[w.heap.size + i]? = l[i]? := by
  intro l
  induction l generalizing w with
  | nil => intro i h; cases h
  | cons o r ih =>
    intro i h
    rw [allocs]
    cases i with
    | zero =>
      have hb := allocs_below (w.alloc o) r (w.heap.size + 1) (by simp)
      exact (hb.block _ (by omega)).trans (heap_alloc_new w o)
    | succ i =>
      have h1 := ih (w.alloc o) i (by simpa using h)
      rw [show (w.alloc o).heap.size = w.heap.size + 1 by simp] at h1
      rw [show w.heap.size + (i + 1) = w.heap.size + 1 + i by omega, h1]
      rfl
theorem allocs_at {w V : World} {N : Nat} {l : List Go.Obj} (hV : allocs w l = V) (hN : w.heap.size = N) (i : Nat) {o : Go.Obj} (h : l[i]? = some o) : V.heap[N + i]? = some o := by
  subst hV hN
  have hi : i < l.length := by
    rcases Nat.lt_or_ge i l.length with h1 | h1
    · exact h1
    · rw [List.getElem?_eq_none h1] at h; cases h
  rw [allocs_get w l i hi, h]
theorem PutJ.kpa {P P1 P2 N : Nat} {nm : List UInt8} {dv : Value} {but : Nat} {er : Nat → Nat} {k : Nat} {W W' : World} (h : PutJ P P1 P2 nm dv but er k W) (hk : KpA N W W') (h0 : P < N) (h1 : P1 < N) (h2 : P2 < N) : PutJ P P1 P2 nm dv but er k W' :=
  ⟨(hk.2 P _ _ h.nm (.inl h0)).trans h.nm, (hk.2 P1 _ _ h.dt (.inl h1)).trans h.dt, (hk.2 P2 _ _ h.fs (.inl h2)).trans h.fs⟩
theorem results_sto2 {fn : Func} {tmps : Array Value} {w : World} {a b B : Nat} {L : List Value} {v : Value} (hf : fn.results = #[.cell a 33, .tmp b]) (ha : tmps[a]?.getD undef = .pointer (some ⟨B, 0, none⟩)) (hv : tmps.getD b undef = v) (hc : w.rangeAt B 0 L) (hl : (Tryz.prog.info? 33).map (·.size) = some L.length) :
    (results fn tmps).run Tryz.prog w = .ok (.tuple #[.agg L.toArray, v]) w := by
  have h := run_loadVar_mid (P := Tryz.prog) w B 0 33 L _ hc Tryz.underlying33 rfl hl
  rw [← hv]
  simp [results, hf, ha, asAddr, h, Sem.run_bind]
set_option maxRecDepth 100000 in
set_option maxHeartbeats 4000000 in
theorem putAll_any (S : Nat → Pl.Shelf) (X : Nat → ShX) (n : Int) (hn : Pl.I64 n) (w : World) (hok : StOk w S X) (hfit : FitS S) (nm : List UInt8) (G : FuncId) (gb : Array Value) (D : Nat → List UInt8)
    (hG : ∀ (a : Value) (V : World), (callFunc G (#[a] ++ gb)).run Tryz.prog V = .ok (.enter G (#[a] ++ gb)) V)
    (hD : ∀ k, k < 5 → ∀ V, Below w.heap.size w V → Calls Tryz.prog G (#[.int .i64 (k : Int)] ++ gb) V (Ret (.string ⟨(D k).toArray⟩) V)) (hDl : ∀ k, k < 5 → (D k).length ≤ 1000000) :
    Calls Tryz.prog 37 #[.agg (stoL S X n).toArray, .string ⟨nm.toArray⟩, .func (.func G) #[] gb] w
      (RetB (fun v w' => ∃ X', v = .tuple #[.agg (stoL (putSh nm D S n) X' (Pl.leftAt n 5)).toArray, .int .i64 ((fstK 0 (putEr nm D S n) 5 : Nat) : Int)] ∧ StF w.heap.size w' (putSh nm D S n) X') w) := by
  obtain ⟨N, hN⟩ : ∃ N, w.heap.size = N := ⟨_, rfl⟩
  obtain ⟨L, hL⟩ : ∃ L, stoL S X n = L := ⟨_, rfl⟩
  have HIL : Hid ((Tryz.prog.info? 33).map (·.size) = some L.length) := by rw [← hL]; exact info_sto
  have HL := Lib.hid hL
  have HH := Lib.hid (And.intro hok (And.intro hG (And.intro hD hDl)))
  rw [hL]
  clear hL hok hG hD hDl
  go_enter Tryz.func37, Tryz.ntmps37
  go_upto_region 2 with (fail)
  simp only [Nat.add_assoc, Nat.reduceAdd]
  rw [zero_sto]
  generalize hV : World.alloc _ (.cells #[.int .i64 0] 35) = V
  have hVa : allocs w [.cells L.toArray 33, .cells #[.string ⟨nm.toArray⟩] 9, .cells #[.func (.func G) #[] gb] 74, .cells (stoL (fun _ => Pl.noSh) (fun _ => ⟨none, 0, none, 0⟩) 0).toArray 33, .cells #[.int .i64 0] 35] = V := hV
  have hbV : Below N w V := by rw [← hVa]; exact allocs_below w _ N (by omega)
  have hsV : V.heap.size = N + 5 := by rw [← hVa, allocs_size, hN]; simp only [List.length_cons, List.length_nil]
  have h0 : StBx N S X n V := by unfold StBx; rw [HL.out]; exact allocs_at hVa hN 0 rfl
  have h3 : StBx (N + 3) (fun _ => Pl.noSh) (fun _ => ⟨none, 0, none, 0⟩) 0 V := allocs_at hVa hN 3 rfl
  have hJ0 : PutJ (N + 1) (N + 2) (N + 4) nm (.func (.func G) #[] gb) 0 (putEr nm D S n) 0 V := ⟨allocs_at hVa hN 1 rfl, allocs_at hVa hN 2 rfl, allocs_at hVa hN 4 rfl⟩
  have hst : StOk V S X := HH.out.1.below (by rw [hN]; exact hbV)
  have hall := all_any 75 #[.pointer (some ⟨N + 1, 0, none⟩), .pointer (some ⟨N + 2, 0, none⟩), .pointer (some ⟨N + 4, 0, none⟩)] S (putSh nm D S n) X n hn V (N + 4) (fun g => g = N + 4) (PutJ (N + 1) (N + 2) (N + 4) nm (.func (.func G) #[] gb) 0 (putEr nm D S n)) hst hfit (by omega) (fun g hg => by omega)
    (fun a b c W => by kernel_rfl) (fun k W W' hj hk => hj.kpa hk (by omega) (by omega) (by omega)) hJ0
    (fun k hk W x hs hb hj hx => putAll1_any (N + 1) (N + 2) (N + 4) (N + 4) nm G gb D (putEr nm D S n) k hk (S k) x (Pl.leftAt n k) V.heap.size W hs hj hx (hfit k hk) (by omega) (by omega) (by omega) (by omega) HH.out.2.1
      (fun U hU => HH.out.2.2.1 k hk U (by rw [hN]; exact (hbV.trans (hb.mono (by omega))).trans (hU.mono (by omega)))) (HH.out.2.2.2 k hk) rfl)
  rw [HL.out] at hall
  have HA := Lib.hid hall
  have hrg : V.rangeAt N 0 L := by rw [← HL.out]; exact h0.range
  have HB := Lib.hid (And.intro hrg (And.intro h0 (And.intro h3 hbV)))
  clear hall hrg h0 h3 hbV hJ0 hst hV hVa
  go_upto_region 3 with first
    | with_reducible refine wpList_load_mid rfl 33 _ rfl N 0 rfl L _ HB.out.1 Tryz.underlying33 rfl HIL.out ?_
    | (with_reducible refine HA.out.mono ?_)
  rintro e w2 ⟨X2, rfl, hst2, hJ2, hb2, hk2⟩
  obtain ⟨L2, hL2⟩ : ∃ L2, stoL (putSh nm D S n) X2 (Pl.leftAt n 5) = L2 := ⟨_, rfl⟩
  have h02 : StBx N S X n w2 := (hb2.block N (by omega)).trans HB.out.2.1
  have h32 : StBx (N + 3) (fun _ => Pl.noSh) (fun _ => ⟨none, 0, none, 0⟩) 0 w2 := (hb2.block (N + 3) (by omega)).trans HB.out.2.2.1
  have hT2 : w2.there N 0 L2.toArray.size := thereL h02 (by rw [← hL2]; exact Nat.le_refl 11)
  have hi2 : (Tryz.prog.info? 33).map (·.size) = some L2.toArray.size := by rw [List.size_toArray, ← hL2]; exact info_sto
  have hi2' : (Tryz.prog.info? 33).map (·.size) = some L2.length := by rw [← hL2]; exact info_sto
  have ho2 : ∀ v ∈ L2, v.oneCell' = true := by rw [← hL2]; exact stoL_one _ X2 _
  rw [hL2]
  obtain ⟨fe, hfe⟩ : ∃ fe, fstK 0 (putEr nm D S n) 5 = fe := ⟨_, rfl⟩
  have hset : (w2.setCells N 0 L2).heap[N]? = some (.cells L2.toArray 33 (0, 0)) := heap_setCells_all h02 (by rw [← hL2]; rfl)
  have hot : ∀ g, g ≠ N → g < w2.heap.size → (w2.setCells N 0 L2).heap[g]? = w2.heap[g]? := fun g hg hs => World.heap_setCells_other _ _ _ _ hs hg
  have hs2 := blk_lt hJ2.fs
  have h33 := (hot (N + 3) (by omega) (by omega)).trans h32
  have hf3 := (hot (N + 4) (by omega) (by omega)).trans hJ2.fs
  have hst3 : StF N (w2.setCells N 0 L2) (putSh nm D S n) X2 := (hst2.weak (b' := N) (by omega)).kpt (h02.kpts L2)
  have hb3 : Below N w (w2.setCells N 0 L2) := (HB.out.2.2.2.trans (hb2.mono (by omega))).trans (Lib.below_setCells_w (Nat.le_refl N) L2 0 w2)
  have HC := Lib.hid (And.intro hT2 (And.intro hi2 (And.intro ho2 (And.intro hset (And.intro h33 (And.intro hf3 (And.intro hst3 (And.intro hb3 (And.intro hL2 (And.intro hfe hi2'))))))))))
  rw [hfe] at hf3
  clear hT2 hi2 ho2 hset hot h33 hst3 hb3 hL2 h02 h32 hJ2 hb2 hk2 hst2 HA
  go_upto_region 3 with first
    | with_reducible refine wpList_store_mid rfl 33 _ _ rfl N 0 L2.toArray rfl rfl HC.out.1 HC.out.2.1 (all_oneCell_toArray HC.out.2.2.1) ?_
  obtain ⟨w3, hw3⟩ : ∃ w3, w2.setCells N 0 L2 = w3 := ⟨_, rfl⟩
  rw [hw3] at HC hf3 ⊢
  clear hw3
  have f0 : w3.cell? ⟨N + 4, 0, none⟩ = some (.int .i64 (fe : Int)) := by rw [cell_row w3 (N + 4) 0 _ _ hf3]; rfl
  refine wp_region_held_drew (S := (fun w' => w'.rangeAt N 0 L2 ∧ w'.cell? ⟨N + 4, 0, none⟩ = some (.int .i64 (fe : Int)))) (by kernel_rfl) (by exact ⟨rangeL HC.out.2.2.2.1, f0⟩) (fun hHeld => ?_)
  refine wpAnyH_take (i := 0) (v := .agg (L2).toArray) rfl (by kernel_rfl) (by kernel_rfl) (by kernel_rfl) (fun _ _ _ h => h) (yieldsIf_load_mid (by kernel_rfl) 33 _ rfl (N) (0) rfl L2 _ (fun _ h => h.1) Tryz.underlying33 rfl hi2') hHeld ?_
  simp only [Act.put, lay9]
  refine tk 1 (v := ?_) rfl ?_ hHeld ?_
  rotate_left
  · (intro w' hSw; (try dsimp only at hSw); (try obtain ⟨hS0, hS1⟩ := hSw); go_simp; try with_reducible rfl)
  simp only [Act.put, lay9]
  refine wpAnyH_ready (rs := [2]) (by kernel_rfl) (by simp) (AllReadyH.cons rfl (fun K hK => ?_) AllReadyH.nil)
  have hT3 : w3.drew.there (N + 3) 0 L2.toArray.size := thereL (w := w3) HC.out.2.2.2.2.1 (by rw [← HC.out.2.2.2.2.2.2.2.2.1]; exact Nat.le_refl 11)
  have hi3 : (Tryz.prog.info? 33).map (·.size) = some L2.toArray.size := HC.out.2.1
  have ho3 := all_oneCell_toArray HC.out.2.2.1
  have hs3 : N + 4 < w3.heap.size := blk_lt hf3
  refine wp_store_mid 33 _ _ rfl (N + 3) 0 L2.toArray rfl rfl hT3 hi3 ho3 ?_
  have hot4 : ∀ g, g ≠ N + 3 → g < w3.heap.size → (World.setCells w3.drew (N + 3) 0 L2).heap[g]? = w3.heap[g]? := fun g hg hs => World.heap_setCells_other w3.drew _ _ _ hs hg
  have hset4 : (World.setCells w3.drew (N + 3) 0 L2).heap[N + 3]? = some (.cells L2.toArray 33 (0, 0)) := heap_setCells_all (w := w3.drew) HC.out.2.2.2.2.1 (by rw [← HC.out.2.2.2.2.2.2.2.2.1]; rfl)
  have h04 := (hot4 N (by omega) (by omega)).trans HC.out.2.2.2.1
  have hf4 := (hot4 (N + 4) (by omega) (by omega)).trans hf3
  have hb4 : Below N w (World.setCells w3.drew (N + 3) 0 L2) := (HC.out.2.2.2.2.2.2.2.1.drew).trans (Lib.below_setCells_w (by omega) L2 0 w3.drew)
  have hst4 : StF N (World.setCells w3.drew (N + 3) 0 L2) (putSh nm D S n) X2 := HC.out.2.2.2.2.2.2.1.kpt (W' := World.setCells w3.drew (N + 3) 0 L2) (StBx.kpts (b := N) (W := w3.drew) HC.out.2.2.2.2.1 L2)
  generalize hw4 : World.setCells w3.drew (N + 3) 0 L2 = w4
  rw [hw4] at hset4 h04 hf4 hb4 hst4
  try rw [show L2.toArray.toList = L2 from rfl]
  try rw [hw4]
  have f4 : w4.cell? ⟨N + 4, 0, none⟩ = some (.int .i64 (fe : Int)) := by rw [cell_row w4 (N + 4) 0 _ _ hf4]; rfl
  refine hK.out _ _ ⟨rangeL h04, f4⟩ (fun hHeld => ?_)
  clear hK K
  (try simp only [Act.put, lay9])
  refine wpAnyH_ready (rs := [3]) (by kernel_rfl) (by simp) (AllReadyH.cons rfl (fun K hK => ?_) AllReadyH.nil)
  go_simp
  refine hK.out _ _ hHeld (fun hHeld => ?_)
  clear hK K
  (try simp only [Act.put, lay9])
  refine wpAnyH_done (by kernel_rfl) ?_ _
  go_wp2_with fail
  refine bodyPost_ret (v := .tuple #[.agg L2.toArray, .int .i64 (fe : Int)]) (results_sto2 (B := N + 3) rfl rfl rfl (rangeL hset4) HC.out.2.2.2.2.2.2.2.2.2.2) rfl ?_
  rw [← HC.out.2.2.2.2.2.2.2.2.2.1, ← HC.out.2.2.2.2.2.2.2.2.1]
  exact ⟨_, rfl, ⟨X2, rfl, by rw [hN]; exact hst4⟩, by rw [hN]; exact hb4⟩
end Go.Proofs.YtdnebgilkfafhaaGreatDoor
