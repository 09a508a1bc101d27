/- What each call of a shelf answers, refused or not; the law's awake, honest. -/
import Derived.Test.YtdnebgilkfafhaaGreatDoorShW1
import Derived.Test.YtdnebgilkfafhaaGreatDoorShW9
import Derived.Test.YtdnebgilkfafhaaGreatDoorShW11
import Derived.Test.YtdnebgilkfafhaaGreatDoorShR1
import Derived.Test.YtdnebgilkfafhaaGreatDoorShPlain
namespace Go.Proofs.YtdnebgilkfafhaaGreatDoor.Pl
def putA (l : List Obj) (F : List Int) (nm d : List UInt8) : List Obj × List Int × Nat :=
  if askE l nm ≠ 0 then (l, F, askE l nm) else if 65536 < d.length then (l, F, 6) else ((putR l (F.headD 0) nm d).1, F.tail, (putR l (F.headD 0) nm d).2)
def getA (l : List Obj) (F : List Int) (nm : List UInt8) : List Int × List UInt8 × Nat :=
  if askE l nm ≠ 0 then (F, [], askE l nm) else (F.tail, (getR l (F.headD 0) nm).1, (getR l (F.headD 0) nm).2)
def dropA (l : List Obj) (F : List Int) (nm : List UInt8) : List Obj × List Int × Nat :=
  if askE l nm ≠ 0 then (l, F, askE l nm) else ((dropR l (F.headD 0) nm).1, F.tail, (dropR l (F.headD 0) nm).2)
def namesA (l : List Obj) (F : List Int) (p : List UInt8) : List Int × List (List UInt8) × Nat :=
  if chk l ≠ 0 then (F, [], chk l) else (F.tail, (namesR l (F.headD 0) p).1, (namesR l (F.headD 0) p).2)
theorem askE_of {l : List Obj} {nm : List UInt8} (h : chk l = 0) (hn : okName nm = true) : askE l nm = 0 := by simp [askE, h, hn]
/-- A shelf's data that are not too great. -/
def Fit (k : Nat) (l : List Obj) (F : List Int) : Prop := l.length ≤ k ∧ F.length ≤ 1000 ∧ ∀ o ∈ l, o.data.length ≤ 1000000
theorem Fit.mk {k : Nat} {l : List Obj} {F : List Int} (h1 : l.length ≤ k) (h2 : F.length ≤ 1000) (h3 : ∀ o ∈ l, o.data.length ≤ 1000000) : Fit k l F := ⟨h1, h2, h3⟩
/-- A shelf that memory has. -/
def FitG (l : List Obj) (F : List Int) : Prop := l.length ≤ 2513169434900 ∧ F.length ≤ 17592186044000
theorem Fit.g {k : Nat} {l : List Obj} {F : List Int} (h : Fit k l F) (hk : k ≤ 1000000) : FitG l F := ⟨by have := h.1; omega, by have := h.2.1; omega⟩
theorem good_data {l : List Obj} {nm : List UInt8} (h : askE l nm = 0) : ∀ o ∈ l, o.data.length ≤ 1000000 := fun o ho => by have := (((chk_iff l).1 (askE_ok h).1).2 o ho).2.1; omega
end Go.Proofs.YtdnebgilkfafhaaGreatDoor.Pl
namespace Go.Proofs.YtdnebgilkfafhaaGreatDoor
open Go.RowKit
set_option linter.unusedVariables false
set_option linter.unusedSimpArgs false

section
variable (A A' : Option Addr) (c c' : Nat) (l : List Pl.Obj) (F : List Int) (nm d : List UInt8) (w : World) (n m : Nat) (hn : l.length = n) (hm : F.length = m) (hr : SlAt w 4 A n c (objCs l)) (hr' : SlAt w 1 A' m c' (ints F)) (hf : Pl.FitG l F)
include hr hr' hf hn hm
theorem put_all (hd : d.length ≤ 1000000) : Calls Tryz.prog 76 #[.agg #[.slice A n c, .slice A' m c'], .string ⟨nm.toArray⟩, .string ⟨d.toArray⟩] w (RetB (PutOut w.heap.size (Pl.putA l F nm d).1 (Pl.putA l F nm d).2.1 (Pl.putA l F nm d).2.2) w) := by
  unfold Pl.putA
  have h1 := hf.1
  have h2 := hf.2
  split
  · next h => exact put_bad A A' _ c _ c' l F nm d w hn hm hr hr' (by omega) (by omega) hd _ (.inl ⟨h, rfl⟩)
  · next h =>
    split
    · next h3 => exact put_bad A A' _ c _ c' l F nm d w hn hm hr hr' (by omega) (by omega) hd _ (.inr ⟨by omega, h3, rfl⟩)
    · next h3 => exact put_good A A' _ c _ c' l F nm d w hn hm hr hr' (by omega) (by omega) (by omega) (by omega)
theorem get_all : Calls Tryz.prog 78 #[.agg #[.slice A n c, .slice A' m c'], .string ⟨nm.toArray⟩] w (RetB (GetOut w.heap.size l (Pl.getA l F nm).1 (Pl.getA l F nm).2.1 (Pl.getA l F nm).2.2) w) := by
  unfold Pl.getA
  have h1 := hf.1
  have h2 := hf.2
  split
  · next h => exact get_bad A A' _ c _ c' l F nm w hn hm hr hr' (by omega) (by omega) h
  · next h => exact get_good A A' _ c _ c' l F nm w hn hm hr hr' (by omega) (by omega) (by omega) (Pl.good_data (nm := nm) (by omega))
theorem drop_all : Calls Tryz.prog 51 #[.agg #[.slice A n c, .slice A' m c'], .string ⟨nm.toArray⟩] w (RetB (PutOut w.heap.size (Pl.dropA l F nm).1 (Pl.dropA l F nm).2.1 (Pl.dropA l F nm).2.2) w) := by
  unfold Pl.dropA
  have h1 := hf.1
  have h2 := hf.2
  split
  · next h => exact drop_bad A A' _ c _ c' l F nm w hn hm hr hr' (by omega) (by omega) h
  · next h => exact drop_good A A' _ c _ c' l F nm w hn hm hr hr' (by omega) (by omega) (by omega)
theorem names_all : Calls Tryz.prog 53 #[.agg #[.slice A n c, .slice A' m c'], .string ⟨nm.toArray⟩] w (RetB (NamesOut w.heap.size l (Pl.namesA l F nm).1 (Pl.namesA l F nm).2.1 (Pl.namesA l F nm).2.2) w) := by
  unfold Pl.namesA
  have h1 := hf.1
  have h2 := hf.2
  split
  · next h => exact names_bad A A' _ c _ c' l F nm w hn hm hr hr' (by omega) (by omega) h
  · next h => exact names_good A A' _ c _ c' l F nm w hn hm hr hr' (by omega) (by omega) (by omega)
end
theorem SlAt.rd {W : World} {k : Nat} {A : Option Addr} {n c : Nat} {xs : List Value} (h : SlAt W k A n c xs) : Rd W k A n xs := h.1
/-- A shelf in a variable of its own, in block B. -/
structure ShB (B : Nat) (l : List Pl.Obj) (F : List Int) (A : Option Addr) (n c : Nat) (A' : Option Addr) (m c' : Nat) (W : World) : Prop where
  box : W.heap[B]? = some (.cells #[.slice A n c, .slice A' m c'] 26 (0, 0))
  obj : SlAt W 4 A n c (objCs l)
  fat : SlAt W 1 A' m c' (ints F)
section
variable {B : Nat} {l : List Pl.Obj} {F : List Int} {A : Option Addr} {n c : Nat} {A' : Option Addr} {m c' : Nat} {W W' : World}
theorem ShB.below (h : ShB B l F A n c A' m c' W) (hb : Below W.heap.size W W') : ShB B l F A n c A' m c' W' := ⟨(hb.block _ (blk_lt h.box)).trans h.box, h.obj.below hb, h.fat.below hb⟩
theorem ShB.lt (h : ShB B l F A n c A' m c' W) : B < W.heap.size := blk_lt h.box
theorem ShB.c0 (h : ShB B l F A n c A' m c' W) : W.cell? ⟨B, 0, none⟩ = some (.slice A n c) := cell_row W _ 0 _ _ h.box
theorem ShB.c1 (h : ShB B l F A n c A' m c' W) : W.cell? ⟨B, 1, none⟩ = some (.slice A' m c') := cell_row W _ 1 _ _ h.box
theorem ShB.fz (h : ShB B l F A n c A' m c' W) : ∀ i, W.frozen? ⟨B, i, none⟩ = false := fun i => frozen_of W _ i _ _ h.box
theorem shb_new (w : World) (h : SlAt w 4 A n c (objCs l)) (h' : SlAt w 1 A' m c' (ints F)) : ShB w.heap.size l F A n c A' m c' (w.alloc (.cells #[.slice A n c, .slice A' m c'] 26)) :=
  ⟨heap_alloc_new w _, h.alloc _, h'.alloc _⟩
end
def notSl : Value → Bool
  | .slice _ _ _ => false
  | _ => true
theorem objCs_notSl (l : List Pl.Obj) : ∀ u ∈ objCs l, notSl u = true := by
  intro u hu
  unfold objCs at hu
  obtain ⟨o, -, hu⟩ := List.mem_flatMap.1 hu
  simp only [objC, List.mem_cons, List.not_mem_nil, or_false] at hu
  rcases hu with rfl | rfl | rfl | rfl <;> rfl
theorem ints_notSl (l : List Int) : ∀ u ∈ ints l, notSl u = true := by
  intro u hu
  unfold ints at hu
  obtain ⟨o, -, rfl⟩ := List.mem_map.1 hu
  rfl
theorem strs_notSl (l : List (List UInt8)) : ∀ u ∈ strs l, notSl u = true := by
  intro u hu
  unfold strs at hu
  obtain ⟨o, -, rfl⟩ := List.mem_map.1 hu
  rfl
/-- Data that are no slices lie in no box of slices. -/
theorem SlAt.setBox {W : World} {k : Nat} {A : Option Addr} {n c : Nat} {xs : List Value} (h : SlAt W k A n c xs) (hk : 0 < k) (hx : ∀ u ∈ xs, notSl u = true) {B : Nat} {C : Array Value} {t : TypeId} (hbox : W.heap[B]? = some (.cells C t (0, 0))) (hC : ∀ u ∈ C.toList, notSl u = false) (i : Nat) (v : Value) : SlAt (W.setCell ⟨B, i, none⟩ v) k A n c xs := by
  rcases Nat.eq_zero_or_pos n with h0 | h0
  · subst h0
    refine ⟨⟨h.1.1, fun h => absurd h (by omega)⟩, h.2⟩
  · refine h.set ?_ _ _
    obtain ⟨b, off, rfl, hlt, hc⟩ := h.1.2 h0
    intro e
    simp only [Option.map_some, Option.some.injEq] at e
    subst e
    have hl := h.1.1
    have hpos : 0 < n * k := Nat.mul_pos h0 hk
    have h1 := hc 0 (by omega)
    rw [cell_row W _ _ _ _ hbox, List.getElem?_eq_getElem (by omega)] at h1
    have h2 : xs[0]'(by omega) ∈ C.toList := by
      rw [Array.getElem?_eq_some_iff] at h1
      obtain ⟨hh, he⟩ := h1
      rw [← he]
      exact Array.getElem_mem_toList hh
    have h3 := hC _ h2
    rw [hx _ (List.getElem_mem _)] at h3
    cases h3
theorem ShB.store {B : Nat} {l l2 : List Pl.Obj} {F F2 : List Int} {A A2 : Option Addr} {n c n2 c2 : Nat} {A' A2' : Option Addr} {m c' m2 c2' : Nat} {W : World} (h : ShB B l F A n c A' m c' W) (h1 : SlAt W 4 A2 n2 c2 (objCs l2)) (h2 : SlAt W 1 A2' m2 c2' (ints F2)) :
    ShB B l2 F2 A2 n2 c2 A2' m2 c2' ((W.setCell ⟨B, 0, none⟩ (.slice A2 n2 c2)).setCell ⟨B, 1, none⟩ (.slice A2' m2 c2')) := by
  have e1 := set_at W B 0 _ (.slice A2 n2 c2) _ h.box
  have c1 : ∀ u ∈ (#[Value.slice A n c, .slice A' m c'] : Array Value).toList, notSl u = false := by
    intro u hu
    simp only [List.mem_cons, List.not_mem_nil, or_false] at hu
    rcases hu with rfl | rfl <;> rfl
  have c2 : ∀ u ∈ ((#[Value.slice A n c, .slice A' m c'] : Array Value).setIfInBounds 0 (.slice A2 n2 c2)).toList, notSl u = false := by
    intro u hu
    simp at hu
    rcases hu with rfl | rfl <;> rfl
  exact ⟨set_at _ B 1 _ _ _ e1, (h1.setBox (by omega) (objCs_notSl _) h.box c1 _ _).setBox (by omega) (objCs_notSl _) e1 c2 _ _, (h2.setBox (by omega) (ints_notSl _) h.box c1 _ _).setBox (by omega) (ints_notSl _) e1 c2 _ _⟩
/-- .. and what else lies there stays. -/
theorem ShB.stays {B : Nat} {l : List Pl.Obj} {F : List Int} {A : Option Addr} {n c : Nat} {A' : Option Addr} {m c' : Nat} {W : World} (h : ShB B l F A n c A' m c' W) {k : Nat} {A2 : Option Addr} {n2 c2 : Nat} {xs : List Value} (h1 : SlAt W k A2 n2 c2 xs) (hk : 0 < k) (hx : ∀ u ∈ xs, notSl u = true)
    (A3 A3' : Option Addr) (n3 c3 m3 c3' : Nat) : SlAt ((W.setCell ⟨B, 0, none⟩ (.slice A3 n3 c3)).setCell ⟨B, 1, none⟩ (.slice A3' m3 c3')) k A2 n2 c2 xs := by
  have e1 := set_at W B 0 _ (.slice A3 n3 c3) _ h.box
  refine (h1.setBox hk hx h.box ?_ _ _).setBox hk hx e1 ?_ _ _
  · intro u hu
    simp only [List.mem_cons, List.not_mem_nil, or_false] at hu
    rcases hu with rfl | rfl <;> rfl
  · intro u hu
    simp at hu
    rcases hu with rfl | rfl <;> rfl
end Go.Proofs.YtdnebgilkfafhaaGreatDoor
