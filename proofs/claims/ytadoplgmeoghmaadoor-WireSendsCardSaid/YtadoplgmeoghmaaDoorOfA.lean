/- The walk of manifest's Of: the snapshot of bytes, or why there is none. -/
import Derived.Test.YtadoplgmeoghmaaDoorNamesOf
import Derived.Test.YtadoplgmeoghmaaDoorOf1
import Derived.Test.YtadoplgmeoghmaaDoorMfByW
import Derived.Test.YtadoplgmeoghmaaDoorMfAl
import Derived.Test.YtadoplgmeoghmaaDoorNumAl
import Derived.Test.YtadoplgmeoghmaaDoorWireB
import Derived.Test.YtadoplgmeoghmaaDoorBase
import Derived.Deep.CutRange
namespace Go.Proofs.YtadoplgmeoghmaaDoor
open Go.RowKit
set_option linter.unusedVariables false
set_option linter.unusedSimpArgs false
attribute [local go_sem] ba_get ba_cut ba_add
structure Tx6 (w : World) (b o : Nat) (x1 x2 x3 x4 x5 x6 : List UInt8) : Prop where
  c1 : w.cell? ⟨b, o + 1, none⟩ = some (.string ⟨x1.toArray⟩)
  c2 : w.cell? ⟨b, o + 2, none⟩ = some (.string ⟨x2.toArray⟩)
  c3 : w.cell? ⟨b, o + 3, none⟩ = some (.string ⟨x3.toArray⟩)
  c4 : w.cell? ⟨b, o + 4, none⟩ = some (.string ⟨x4.toArray⟩)
  c5 : w.cell? ⟨b, o + 5, none⟩ = some (.string ⟨x5.toArray⟩)
  c6 : w.cell? ⟨b, o + 6, none⟩ = some (.string ⟨x6.toArray⟩)
theorem Tx6.below {w w' : World} {b o B : Nat} {x1 x2 x3 x4 x5 x6 : List UInt8} (h : Tx6 w b o x1 x2 x3 x4 x5 x6) (hb : b < B) (hw : Below B w w') : Tx6 w' b o x1 x2 x3 x4 x5 x6 :=
  ⟨(hw.cell (p := ⟨b, o + 1, none⟩) hb).trans h.c1, (hw.cell (p := ⟨b, o + 2, none⟩) hb).trans h.c2, (hw.cell (p := ⟨b, o + 3, none⟩) hb).trans h.c3, (hw.cell (p := ⟨b, o + 4, none⟩) hb).trans h.c4, (hw.cell (p := ⟨b, o + 5, none⟩) hb).trans h.c5, (hw.cell (p := ⟨b, o + 6, none⟩) hb).trans h.c6⟩
/-- The flag's cell, what stood ahead, the texts. -/
structure OfInv (w1 : World) (b o : Nat) (x1 x2 x3 x4 x5 x6 : List UInt8) (W : World) (q : Bool) : Prop where
  fq : boolAt W w1.heap.size q
  fb : Below w1.heap.size w1 W
  ft : Tx6 W b o x1 x2 x3 x4 x5 x6
theorem OfInv.call {w1 W W' : World} {b o : Nat} {x1 x2 x3 x4 x5 x6 : List UInt8} {q q' : Bool} (h : OfInv w1 b o x1 x2 x3 x4 x5 x6 W q) (hb : b < w1.heap.size) (hq : boolAt W' w1.heap.size q') (hw : Below w1.heap.size W W') : OfInv w1 b o x1 x2 x3 x4 x5 x6 W' q' :=
  ⟨hq, h.fb.trans hw, h.ft.below hb hw⟩
theorem OfInv.alloc {w1 W : World} {b o : Nat} {x1 x2 x3 x4 x5 x6 : List UInt8} {q : Bool} (h : OfInv w1 b o x1 x2 x3 x4 x5 x6 W q) (hb : b < w1.heap.size) (ob : Obj) : OfInv w1 b o x1 x2 x3 x4 x5 x6 (W.alloc ob) q :=
  h.call hb ((Below.heap_alloc _ _ _ (blk_lt h.fq)).trans h.fq) ((Below.refl _ _).alloc h.fb.size _)
theorem own_set {w : World} {base : Nat} {e : TypeId} {k n B : Nat} {v : Value} {xs : List Value} (h : w.ownsRow base e k v n xs) (hB : B < base) (i : Nat) (u : Value) : (w.setCell ⟨B, i, none⟩ u).ownsRow base e k v n xs :=
  h.kept (row := some B) ⟨rfl, rfl, rfl, by simp [World.setCell], fun k _ hk => Below.heap_setCell _ _ _ _ (fun e => hk (by simp [e]))⟩ (.inr fun he => by have := (h.lt B he).1; omega)
theorem own_setCells {base : Nat} {e : TypeId} {k n B : Nat} {v : Value} {xs : List Value} (hB : B < base) : ∀ (vs : List Value) (o : Nat) (w : World), w.ownsRow base e k v n xs → (w.setCells B o vs).ownsRow base e k v n xs
  | [], _, _, h => h
  | u :: r, o, w, h => own_setCells hB r (o + 1) _ (own_set h hB o u)
theorem step_copy32o {ops : Array Oper} {o : Oper} {a : Act} {w V : World} {K : Act → World → Prop} {Q : Exit → Act → World → Prop} {E : Prop} (hg : o.guard = none) (d x' : Operand)
    (hop : o.op = .call { callee := .builtin .copy, args := #[d, x'], argTypes := #[71, 9] }) (H off : Nat) (hd : a.eval d = .slice (some ⟨H, off, none⟩) 32 32) (x : List UInt8) (hx : a.eval x' = .string ⟨x.toArray⟩) (hxl : Hid (x.length = 32))
    (hw : w = V.drew) (hcf : Hid ((∀ j, j < 32 → (V.cell? ⟨H, off + j, none⟩).isSome = true) ∧ (∀ j, j < 32 → V.frozen? ⟨H, off + j, none⟩ = false)))
    (hK : K (a.put o.dst (goInt 32)) (w.setCells H off (byC x))) : if Region.wanted o (yielded ops a.tmps) = true then Oper.wp Tryd.prog o a w K Q else E := by
  subst hw
  have hsz : (⟨x.toArray⟩ : ByteArray).size = 32 := by simp [ByteArray.size, hxl.out]
  refine step_copy_string hg d x' _ _ hop 5 Tryd.underlying71 size_u8 H off 32 32 hd ⟨x.toArray⟩ hx (by omega) (fun j hj => hcf.out.1 j (by omega)) (fun j hj => hcf.out.2 j (by omega)) ?_
  rw [hsz]
  have e : ((⟨x.toArray⟩ : ByteArray).data.toList.map fun x => Value.int .u8 (x.toNat : Int)) = byC x := by simp [byC]
  rw [e]
  exact hK
theorem names_short (b : List UInt8) : ∀ t ∈ Pl.namesB b, t.length = 64 := fun t ht => by
  have := List.all_eq_true.1 (Pl.namesB_ok b) t ht
  unfold Pl.okN Pl.hashOf at this
  split at this
  · assumption
  · cases this
theorem rowN_fit (b : List UInt8) : (∀ t ∈ Pl.rowN b, t.length ≤ 140737488355328) ∧ (Pl.rowN b).length ≤ 140737488355328 := by
  cases h : Pl.rowK b
  · rw [Pl.rowN_no h]; simp
  · rw [Pl.rowN_ok h]
    have hk := h
    unfold Pl.rowK at hk
    rw [Bool.and_eq_true] at hk
    have h2 := of_decide_eq_true hk.2
    exact ⟨fun t ht => by rw [names_short b t ht]; omega, by rw [Pl.namesB_len]; omega⟩
theorem part_fit (l : List (List UInt8)) (d : List UInt8) (h : (l.getD 1 []).length ≤ 140737488355328) : SnFit { Pl.partL l 3 with sum := d } :=
  ⟨h, (rowN_fit _).1, (rowN_fit _).1, (rowN_fit _).1, (rowN_fit _).2, (rowN_fit _).2, (rowN_fit _).2⟩
/-- What stands when k rows are laid. -/
structure OfRows (B0 H H8 : Nat) (l : List (List UInt8)) (k : Nat) (X : Cx) (w1 W : World) : Prop where
  z : W.heap[H8]? = some (.cells (snL (Pl.partL l k) X).toArray 31 (0, 0))
  q : boolAt W H (Pl.allQ l k)
  b : Below H w1 W
  s : B0 ≤ W.heap.size
  r0 : W.ownsRow B0 9 1 (.slice X.A0 X.n0 X.k0) X.n0 (strs (Pl.partL l k).c0)
  r1 : W.ownsRow B0 9 1 (.slice X.A1 X.n1 X.k1) X.n1 (strs (Pl.partL l k).c1)
  r2 : W.ownsRow B0 9 1 (.slice X.A2 X.n2 X.k2) X.n2 (strs (Pl.partL l k).c2)
theorem OfRows.step0 {B0 H H8 n c : Nat} {A : Option Addr} {l : List (List UInt8)} {X : Cx} {w1 w2 : World} {f : Bool} (h : OfRows B0 H H8 l 0 X w1 w2) (hne : H8 ≠ H) (hH : H < B0) (hH8 : H8 < B0) (hle : H ≤ H8) (hown : w2.ownsRow B0 9 1 (.slice A n c) n (strs (Pl.rowN (l.getD 7 [])))) (hf : Pl.allQ l 1 = f) :
    OfRows B0 H H8 l 1 { X with A0 := A, n0 := n, k0 := c } w1 ((w2.setCell ⟨H, 0, none⟩ (.bool f)).setCell ⟨H8, 6, none⟩ (.slice A n c)) := by
  obtain ⟨A0, n0, k0, A1, n1, k1, A2, n2, k2⟩ := X
  refine ⟨?_, ?_, (h.b.setCell (p := ⟨H, 0, none⟩) (Nat.le_refl _) _).setCell (p := ⟨H8, 6, none⟩) hle _, by simp [World.size_setCell]; exact h.s, own_set (own_set hown hH _ _) hH8 _ _, own_set (own_set h.r1 hH _ _) hH8 _ _, own_set (own_set h.r2 hH _ _) hH8 _ _⟩
  · have h1 := (Below.heap_setCell w2 ⟨H, 0, none⟩ (.bool f) H8 (by exact hne)).trans h.z
    have h2 := set_at _ H8 6 _ (.slice A n c) _ h1
    rw [List.setIfInBounds_toArray] at h2
    exact h2
  · rw [hf]
    exact (Below.heap_setCell _ ⟨H8, 6, none⟩ _ H (by exact hne.symm)).trans (set_at w2 H 0 _ (.bool f) _ h.q)
theorem OfRows.step1 {B0 H H8 n c : Nat} {A : Option Addr} {l : List (List UInt8)} {X : Cx} {w1 w2 : World} {f : Bool} (h : OfRows B0 H H8 l 1 X w1 w2) (hne : H8 ≠ H) (hH : H < B0) (hH8 : H8 < B0) (hle : H ≤ H8) (hown : w2.ownsRow B0 9 1 (.slice A n c) n (strs (Pl.rowN (l.getD 8 [])))) (hf : Pl.allQ l 2 = f) :
    OfRows B0 H H8 l 2 { X with A1 := A, n1 := n, k1 := c } w1 ((w2.setCell ⟨H, 0, none⟩ (.bool f)).setCell ⟨H8, 7, none⟩ (.slice A n c)) := by
  obtain ⟨A0, n0, k0, A1, n1, k1, A2, n2, k2⟩ := X
  refine ⟨?_, ?_, (h.b.setCell (p := ⟨H, 0, none⟩) (Nat.le_refl _) _).setCell (p := ⟨H8, 7, none⟩) hle _, by simp [World.size_setCell]; exact h.s, own_set (own_set h.r0 hH _ _) hH8 _ _, own_set (own_set hown hH _ _) hH8 _ _, own_set (own_set h.r2 hH _ _) hH8 _ _⟩
  · have h1 := (Below.heap_setCell w2 ⟨H, 0, none⟩ (.bool f) H8 (by exact hne)).trans h.z
    have h2 := set_at _ H8 7 _ (.slice A n c) _ h1
    rw [List.setIfInBounds_toArray] at h2
    exact h2
  · rw [hf]
    exact (Below.heap_setCell _ ⟨H8, 7, none⟩ _ H (by exact hne.symm)).trans (set_at w2 H 0 _ (.bool f) _ h.q)
theorem OfRows.step2 {B0 H H8 n c : Nat} {A : Option Addr} {l : List (List UInt8)} {X : Cx} {w1 w2 : World} {f : Bool} (h : OfRows B0 H H8 l 2 X w1 w2) (hne : H8 ≠ H) (hH : H < B0) (hH8 : H8 < B0) (hle : H ≤ H8) (hown : w2.ownsRow B0 9 1 (.slice A n c) n (strs (Pl.rowN (l.getD 9 [])))) (hf : Pl.allQ l 3 = f) :
    OfRows B0 H H8 l 3 { X with A2 := A, n2 := n, k2 := c } w1 ((w2.setCell ⟨H, 0, none⟩ (.bool f)).setCell ⟨H8, 8, none⟩ (.slice A n c)) := by
  obtain ⟨A0, n0, k0, A1, n1, k1, A2, n2, k2⟩ := X
  refine ⟨?_, ?_, (h.b.setCell (p := ⟨H, 0, none⟩) (Nat.le_refl _) _).setCell (p := ⟨H8, 8, none⟩) hle _, by simp [World.size_setCell]; exact h.s, own_set (own_set h.r0 hH _ _) hH8 _ _, own_set (own_set h.r1 hH _ _) hH8 _ _, own_set (own_set hown hH _ _) hH8 _ _⟩
  · have h1 := (Below.heap_setCell w2 ⟨H, 0, none⟩ (.bool f) H8 (by exact hne)).trans h.z
    have h2 := set_at _ H8 8 _ (.slice A n c) _ h1
    rw [List.setIfInBounds_toArray] at h2
    exact h2
  · rw [hf]
    exact (Below.heap_setCell _ ⟨H8, 8, none⟩ _ H (by exact hne.symm)).trans (set_at w2 H 0 _ (.bool f) _ h.q)
theorem OfRows.below {B0 H H8 k : Nat} {l : List (List UInt8)} {X : Cx} {w1 w w' : World} (h : OfRows B0 H H8 l k X w1 w) (hH : H < B0) (hb : Below w.heap.size w w') : OfRows B0 H H8 l k X w1 w' :=
  ⟨(hb.block _ (blk_lt h.z)).trans h.z, (hb.block _ (blk_lt h.q)).trans h.q, h.b.trans (hb.mono (by have := h.s; omega)), Nat.le_trans h.s hb.size, own_below h.r0 hb, own_below h.r1 hb, own_below h.r2 hb⟩
theorem text_le {l : List (List UInt8)} (t : List UInt8) (h : t ∈ l) : t.length ≤ (Pl.rowB l).length := by
  induction l with
  | nil => cases h
  | cons x l ih =>
    simp only [Pl.rowB, List.length_append]
    rcases List.mem_cons.1 h with rfl | h
    · omega
    · have := ih h; omega
/-- The three slices lie in no block below B. -/
structure CxNew (B : Nat) (X : Cx) : Prop where
  a0 : ∀ b, X.A0.map Addr.block = some b → B ≤ b
  a1 : ∀ b, X.A1.map Addr.block = some b → B ≤ b
  a2 : ∀ b, X.A2.map Addr.block = some b → B ≤ b
theorem cxNew_zero (B : Nat) : CxNew B cx0 := ⟨fun _ h => (by cases h), fun _ h => (by cases h), fun _ h => (by cases h)⟩
theorem own_new {w : World} {base : Nat} {e : TypeId} {A : Option Addr} {n c : Nat} {xs : List Value} (h : w.ownsRow base e 1 (.slice A n c) n xs) {B : Nat} (hB : B ≤ base) : ∀ b, A.map Addr.block = some b → B ≤ b := fun b hb => by
  cases A with
  | none => cases hb
  | some a => exact Nat.le_trans hB (h.lt b (by simpa [Value.ownBlock] using hb)).1
def MOfOut (b : List UInt8) (B : Nat) (v : Value) (w' : World) : Prop := ∃ X', v = .tuple #[.agg (snL (Pl.mof b).1 X').toArray, .int .i64 ((Pl.mof b).2 : Int)] ∧ SnOk w' (Pl.mof b).1 X' ∧ CxNew B X'
set_option maxRecDepth 100000 in
set_option maxHeartbeats 8000000 in
theorem mfof_any (b : List UInt8) (w : World) (hs : b.length ≤ 1099511627776) (hv : VNum w) : Calls Tryd.prog 52 #[.string ⟨b.toArray⟩] w (RetB (MOfOut b w.heap.size) w) := by
  obtain ⟨l, e, hl⟩ : ∃ l e, Pl.texts b = (l, e) := ⟨_, _, rfl⟩
  have htx := fun W => texts_at b l e hl W hs
  have HT := Lib.hid (And.intro htx hl); clear htx hl
  have HV := Lib.hid hv; clear hv
  go_enter Tryd.func52, Tryd.ntmps52
  go_upto_region 1 with (fail)
  generalize hV : w.alloc _ = V
  have hR : ∃ C : Array Value, C.size = 41 ∧ V.heap[w.heap.size]? = some (.cells C 31 (0, 0)) := ⟨_, rfl, by rw [← hV]; exact heap_alloc_new w _⟩
  obtain ⟨C, hC, hR⟩ := hR
  have hbV : Below w.heap.size w V := by rw [← hV]; exact (Below.refl _ _).alloc (Nat.le_refl _) _
  clear hV
  go_wp2_with fail
  (with_reducible refine (HT.out.1 _).mono ?_)
  rintro en w1 ⟨A, c, rfl, hr1, -, hb1⟩
  have hR1 := (hb1.block w.heap.size (blk_lt hR)).trans hR
  have hd1 : Below w.heap.size w w1 := hbV.trans (hb1.mono hbV.size)
  clear hb1 hbV hR
  obtain ⟨ZS, hZS⟩ : ∃ L, snL Pl.zeroS cx0 = L := ⟨_, rfl⟩
  have hzl : ZS.toArray.size = 41 := by rw [List.size_toArray, ← hZS]; rfl
  have hzo : ZS.toArray.all (·.oneCell') = true := all_oneCell_toArray (by rw [← hZS]; exact snL_one _ _)
  have hzi : (Tryd.prog.info? 31).map (·.size) = some ZS.toArray.size := by rw [hzl]; exact info_snap
  have hzt : ∀ W : World, W.heap[w.heap.size]? = some (.cells C 31 (0, 0)) → W.there w.heap.size 0 ZS.toArray.size := fun W h => there_row h (by rw [hC, hzl]; exact Nat.le_refl _)
  have HZ := Lib.hid (And.intro hZS (And.intro hzo (And.intro hzi (And.intro hzt hzl)))); clear hZS hzo hzi hzt hzl
  by_cases he : e ≠ 0
  · have hne : ((e : Int) == 0) = false := by rw [beq_eq_false_iff_ne]; omega
    have HM := Lib.hid (Pl.mof_err HT.out.2 he)
    have hth := HZ.out.2.2.2.1 w1 hR1
    go_wp2_with (first
      | (with_reducible refine wpList_build_snap HZ.out.1 rfl rfl ?_)
      | (with_reducible refine wpList_store_mid rfl 31 _ _ rfl w.heap.size 0 ZS.toArray rfl rfl hth HZ.out.2.2.1 HZ.out.2.1 ?_))
    refine bodyPost_ret (results_cell2 (cs := ZS) rfl rfl (World.rangeAt_setCells_same _ _ _ _ (by simpa using hth)) Tryd.underlying31 rfl (by have := HZ.out.2.2.1; simpa using this)) rfl ?_
    exact ⟨_, rfl, ⟨cx0, by rw [HM.out, HZ.out.1]; rfl, by rw [HM.out]; exact ok_zero _, cxNew_zero _⟩, hd1.trans (Lib.below_setCells_w (Nat.le_refl _) _ _ _)⟩
  obtain rfl : e = 0 := by omega
  clear he
  have HM := Lib.hid (Pl.mof_ok HT.out.2)
  have hno : Pl.okL l = false → Pl.mof b = (Pl.zeroS, 3) := fun h => by rw [HM.out]; unfold Pl.mofL; rw [h]; rfl
  have HNO := Lib.hid hno; clear hno
  by_cases h11 : l.length = 11
  rotate_left
  · have hd : ((l.length : Int) == 11) = false := by rw [beq_eq_false_iff_ne]; omega
    have HB := Lib.hid (HNO.out (Pl.okL_noForm (by unfold Pl.formL; rw [decide_eq_false h11]; rfl)))
    have hth := HZ.out.2.2.2.1 w1 hR1
    go_wp2_with (first
      | (with_reducible refine wpList_build_snap HZ.out.1 rfl rfl ?_)
      | (with_reducible refine wpList_store_mid rfl 31 _ _ rfl w.heap.size 0 ZS.toArray rfl rfl hth HZ.out.2.2.1 HZ.out.2.1 ?_))
    refine bodyPost_ret (results_cell2 (cs := ZS) rfl rfl (World.rangeAt_setCells_same _ _ _ _ (by simpa using hth)) Tryd.underlying31 rfl (by have := HZ.out.2.2.1; simpa using this)) rfl ?_
    exact ⟨_, rfl, ⟨cx0, by rw [HB.out, HZ.out.1]; rfl, by rw [HB.out]; exact ok_zero _, cxNew_zero _⟩, hd1.trans (Lib.below_setCells_w (Nat.le_refl _) _ _ _)⟩
  have hmem := fun t ht => text_le (l := l) t ht
  rw [Pl.rowB_texts b l HT.out.2] at hmem
  obtain ⟨x0, x1, x2, x3, x4, x5, x6, x7, x8, x9, x10, rfl⟩ : ∃ x0 x1 x2 x3 x4 x5 x6 x7 x8 x9 x10, l = [x0, x1, x2, x3, x4, x5, x6, x7, x8, x9, x10] := ⟨_, _, _, _, _, _, _, _, _, _, _, Pl.list11 h11⟩
  obtain ⟨b1, o1, rfl, hbw, hc⟩ := hr1.all (by simp)
  have HR1 := Lib.hid hc
  have c0 : w1.cell? ⟨b1, o1, none⟩ = some (.string ⟨x0.toArray⟩) := hc 0 (by simp [strs])
  have c4 : w1.cell? ⟨b1, o1 + 4, none⟩ = some (.string ⟨x4.toArray⟩) := hc 4 (by simp [strs])
  have c10 : w1.cell? ⟨b1, o1 + 10, none⟩ = some (.string ⟨x10.toArray⟩) := hc 10 (by simp [strs])
  clear hc hr1 h11
  have HME := Lib.hid hmem; clear hmem
  by_cases e0 : x0 = [104, 105, 98, 109]
  rotate_left
  · have hd : (x0 == [104, 105, 98, 109]) = false := beq_eq_false_iff_ne.2 e0
    have HB := Lib.hid (HNO.out (Pl.okL_noHead (fun h => e0 h)))
    have hth := HZ.out.2.2.2.1 w1 hR1
    go_wp2_with (first
      | (with_reducible refine wpList_build_snap HZ.out.1 rfl rfl ?_)
      | (with_reducible refine wpList_store_mid rfl 31 _ _ rfl w.heap.size 0 ZS.toArray rfl rfl hth HZ.out.2.2.1 HZ.out.2.1 ?_))
    refine bodyPost_ret (results_cell2 (cs := ZS) rfl rfl (World.rangeAt_setCells_same _ _ _ _ (by simpa using hth)) Tryd.underlying31 rfl (by have := HZ.out.2.2.1; simpa using this)) rfl ?_
    exact ⟨_, rfl, ⟨cx0, by rw [HB.out, HZ.out.1]; rfl, by rw [HB.out]; exact ok_zero _, cxNew_zero _⟩, hd1.trans (Lib.below_setCells_w (Nat.le_refl _) _ _ _)⟩
  subst e0
  by_cases e4 : x4.length = 8
  rotate_left
  · have hd : ((x4.length : Int) == 8) = false := by rw [beq_eq_false_iff_ne]; omega
    have hd' : ((x4.length : Int) != 8) = true := by unfold bne; rw [hd]; rfl
    have HB := Lib.hid (HNO.out (Pl.okL_noForm (by unfold Pl.formL; rw [show decide ((List.getD [_, x1, x2, x3, x4, x5, x6, x7, x8, x9, x10] 4 []).length = 8) = false from decide_eq_false e4]; simp)))
    have hth := HZ.out.2.2.2.1 w1 hR1
    go_wp2_with (first
      | (with_reducible refine wpList_build_snap HZ.out.1 rfl rfl ?_)
      | (with_reducible refine wpList_store_mid rfl 31 _ _ rfl w.heap.size 0 ZS.toArray rfl rfl hth HZ.out.2.2.1 HZ.out.2.1 ?_))
    refine bodyPost_ret (results_cell2 (cs := ZS) rfl rfl (World.rangeAt_setCells_same _ _ _ _ (by simpa using hth)) Tryd.underlying31 rfl (by have := HZ.out.2.2.1; simpa using this)) rfl ?_
    exact ⟨_, rfl, ⟨cx0, by rw [HB.out, HZ.out.1]; rfl, by rw [HB.out]; exact ok_zero _, cxNew_zero _⟩, hd1.trans (Lib.below_setCells_w (Nat.le_refl _) _ _ _)⟩
  have hd4 : ((x4.length : Int) == 8) = true := by rw [beq_iff_eq]; omega
  have hn4 : ((x4.length : Int) != 8) = false := by unfold bne; rw [hd4]; rfl
  by_cases e10 : x10.length = 32
  rotate_left
  · have hd : ((x10.length : Int) == 32) = false := by rw [beq_eq_false_iff_ne]; omega
    have hd' : ((x10.length : Int) != 32) = true := by unfold bne; rw [hd]; rfl
    have HB := Lib.hid (HNO.out (Pl.okL_noForm (by unfold Pl.formL; rw [show decide ((List.getD [_, x1, x2, x3, x4, x5, x6, x7, x8, x9, x10] 10 []).length = 32) = false from decide_eq_false e10]; simp)))
    have hth := HZ.out.2.2.2.1 w1 hR1
    go_wp2_with (first
      | (with_reducible refine wpList_build_snap HZ.out.1 rfl rfl ?_)
      | (with_reducible refine wpList_store_mid rfl 31 _ _ rfl w.heap.size 0 ZS.toArray rfl rfl hth HZ.out.2.2.1 HZ.out.2.1 ?_))
    refine bodyPost_ret (results_cell2 (cs := ZS) rfl rfl (World.rangeAt_setCells_same _ _ _ _ (by simpa using hth)) Tryd.underlying31 rfl (by have := HZ.out.2.2.1; simpa using this)) rfl ?_
    exact ⟨_, rfl, ⟨cx0, by rw [HB.out, HZ.out.1]; rfl, by rw [HB.out]; exact ok_zero _, cxNew_zero _⟩, hd1.trans (Lib.below_setCells_w (Nat.le_refl _) _ _ _)⟩
  have hd10 : ((x10.length : Int) == 32) = true := by rw [beq_iff_eq]; omega
  have hn10 : ((x10.length : Int) != 32) = false := by unfold bne; rw [hd10]; rfl
  have HOK := Lib.hid (Pl.okL_all (l := [[104, 105, 98, 109], x1, x2, x3, x4, x5, x6, x7, x8, x9, x10]) (by unfold Pl.formL; simp [e4, e10]) rfl)
  have HXL := Lib.hid (And.intro e4 e10); clear e4 e10
  go_upto_region 8 with (fail)
  generalize hW : w1.alloc _ = W
  have hI : OfInv w1 b1 o1 x1 x2 x3 x4 x5 x6 W true := by
    refine ⟨by rw [← hW]; exact heap_alloc_new w1 _, by rw [← hW]; exact (Below.refl _ _).alloc (Nat.le_refl _) _, ?_⟩
    have ht : Tx6 w1 b1 o1 x1 x2 x3 x4 x5 x6 := ⟨HR1.out 1 (by simp [strs]), HR1.out 2 (by simp [strs]), HR1.out 3 (by simp [strs]), HR1.out 4 (by simp [strs]), HR1.out 5 (by simp [strs]), HR1.out 6 (by simp [strs])⟩
    exact ht.below (w' := W) hbw (by rw [← hW]; exact (Below.refl _ _).alloc (Nat.le_refl _) _)
  have hmx := fun t ht => Nat.le_trans (HME.out t ht) hs
  have o2 := fun (W : World) (q : Bool) (hq : boolAt W w1.heap.size q) (hb : Below w1.heap.size w1 W) => of1_any x2 q w1.heap.size w W (hmx x2 (by simp)) hq HV.out (hd1.trans (hb.mono hd1.size)) hd1.size
  have o3 := fun (W : World) (q : Bool) (hq : boolAt W w1.heap.size q) (hb : Below w1.heap.size w1 W) => of1_any x3 q w1.heap.size w W (hmx x3 (by simp)) hq HV.out (hd1.trans (hb.mono hd1.size)) hd1.size
  have o5 := fun (W : World) (q : Bool) (hq : boolAt W w1.heap.size q) (hb : Below w1.heap.size w1 W) => of1_any x5 q w1.heap.size w W (hmx x5 (by simp)) hq HV.out (hd1.trans (hb.mono hd1.size)) hd1.size
  have o6 := fun (W : World) (q : Bool) (hq : boolAt W w1.heap.size q) (hb : Below w1.heap.size w1 W) => of1_any x6 q w1.heap.size w W (hmx x6 (by simp)) hq HV.out (hd1.trans (hb.mono hd1.size)) hd1.size
  have g4 := fun W => get_any x4 (by have := HXL.out.1; omega) W
  rw [List.take_of_length_le (by have := HXL.out.1; omega)] at g4
  have HCL := Lib.hid (And.intro o2 (And.intro o3 (And.intro g4 (And.intro o5 o6))))
  clear o2 o3 g4 o5 o6 hmx hd4 hn4 hd10 hn10 c0 c4 c10
  obtain ⟨L0, hL0⟩ : ∃ L, snL (Pl.partL [[104, 105, 98, 109], x1, x2, x3, x4, x5, x6, x7, x8, x9, x10] 0) cx0 = L := ⟨_, rfl⟩
  have HL0 := Lib.hid (And.intro hL0 (And.intro (show L0.toArray.size = 41 by rw [List.size_toArray, ← hL0]; rfl) (show L0.toArray.all (·.oneCell') = true from all_oneCell_toArray (by rw [← hL0]; exact snL_one _ _))))
  clear hL0
  have HW := Lib.hid hI
  clear hI hW
  go_cut [8] from 46 to 73 (fun s8 wx => ∃ H8, s8 = .pointer (some ⟨H8, 0, none⟩) ∧ H8 ≠ w1.heap.size ∧ w1.heap.size ≤ H8 ∧ wx.heap[H8]? = some (.cells L0.toArray 31 (0, 0)) ∧ boolAt wx w1.heap.size (Pl.intsQ [[104, 105, 98, 109], x1, x2, x3, x4, x5, x6, x7, x8, x9, x10]) ∧ Below w1.heap.size w1 wx)
  case first =>
    have hI0 : OfInv w1 b1 o1 x1 x2 x3 x4 x5 x6 W.drew true := ⟨HW.out.fq, HW.out.fb.drew, HW.out.ft.below hbw (Below.refl _ _).drew⟩
    refine wp_region_held_drew (S := (fun w' => Tx6 w' b1 o1 x1 x2 x3 x4 x5 x6)) (by kernel_rfl) (by exact hI0.ft) (fun hHeld => ?_)
    refine wpAnyH_take (i := 0) (v := ?_) rfl (by kernel_rfl) (by kernel_rfl) (by kernel_rfl) (fun _ _ _ h => h) (Or.inl ⟨by kernel_rfl, ?_⟩) hHeld ?_
    rotate_left
    · (intro w' hSw; obtain ⟨hS0, hS1, hS2, hS3, hS4, hS5⟩ := hSw; go_simp; try with_reducible rfl)
    simp only [Act.put, List.setIfInBounds_toArray, List.set_cons_zero, List.set_cons_succ, List.getElem_toArray, List.getElem_cons_succ, List.getElem_cons_zero]
    refine wpAnyH_take (i := 1) (v := ?_) rfl (by kernel_rfl) (by kernel_rfl) (by kernel_rfl) (fun _ _ _ h => h) (Or.inl ⟨by kernel_rfl, ?_⟩) hHeld ?_
    rotate_left
    · (intro w' hSw; obtain ⟨hS0, hS1, hS2, hS3, hS4, hS5⟩ := hSw; go_simp; try with_reducible rfl)
    simp only [Act.put, List.setIfInBounds_toArray, List.set_cons_zero, List.set_cons_succ, List.getElem_toArray, List.getElem_cons_succ, List.getElem_cons_zero]
    refine wpAnyH_take (i := 2) (v := ?_) rfl (by kernel_rfl) (by kernel_rfl) (by kernel_rfl) (fun _ _ _ h => h) (Or.inl ⟨by kernel_rfl, ?_⟩) hHeld ?_
    rotate_left
    · (intro w' hSw; obtain ⟨hS0, hS1, hS2, hS3, hS4, hS5⟩ := hSw; go_simp; try with_reducible rfl)
    simp only [Act.put, List.setIfInBounds_toArray, List.set_cons_zero, List.set_cons_succ, List.getElem_toArray, List.getElem_cons_succ, List.getElem_cons_zero]
    refine wpAnyH_take (i := 3) (v := ?_) rfl (by kernel_rfl) (by kernel_rfl) (by kernel_rfl) (fun _ _ _ h => h) (Or.inl ⟨by kernel_rfl, ?_⟩) hHeld ?_
    rotate_left
    · (intro w' hSw; obtain ⟨hS0, hS1, hS2, hS3, hS4, hS5⟩ := hSw; go_simp; try with_reducible rfl)
    simp only [Act.put, List.setIfInBounds_toArray, List.set_cons_zero, List.set_cons_succ, List.getElem_toArray, List.getElem_cons_succ, List.getElem_cons_zero]
    refine wpAnyH_take (i := 4) (v := ?_) rfl (by kernel_rfl) (by kernel_rfl) (by kernel_rfl) (fun _ _ _ h => h) (Or.inl ⟨by kernel_rfl, ?_⟩) hHeld ?_
    rotate_left
    · (intro w' hSw; obtain ⟨hS0, hS1, hS2, hS3, hS4, hS5⟩ := hSw; go_simp; try with_reducible rfl)
    simp only [Act.put, List.setIfInBounds_toArray, List.set_cons_zero, List.set_cons_succ, List.getElem_toArray, List.getElem_cons_succ, List.getElem_cons_zero]
    refine wpAnyH_take (i := 5) (v := ?_) rfl (by kernel_rfl) (by kernel_rfl) (by kernel_rfl) (fun _ _ _ h => h) (Or.inl ⟨by kernel_rfl, ?_⟩) hHeld ?_
    rotate_left
    · (intro w' hSw; obtain ⟨hS0, hS1, hS2, hS3, hS4, hS5⟩ := hSw; go_simp; try with_reducible rfl)
    simp only [Act.put, List.setIfInBounds_toArray, List.set_cons_zero, List.set_cons_succ, List.getElem_toArray, List.getElem_cons_succ, List.getElem_cons_zero]
    refine wpAnyH_take (i := 6) (v := ?_) rfl (by kernel_rfl) (by kernel_rfl) (by kernel_rfl) (fun _ _ _ h => h) (Or.inl ⟨by kernel_rfl, ?_⟩) hHeld ?_
    rotate_left
    · (intro w' hSw; obtain ⟨hS0, hS1, hS2, hS3, hS4, hS5⟩ := hSw; go_simp; try with_reducible rfl)
    simp only [Act.put, List.setIfInBounds_toArray, List.set_cons_zero, List.set_cons_succ, List.getElem_toArray, List.getElem_cons_succ, List.getElem_cons_zero]
    refine wpAnyH_take (i := 8) (v := ?_) rfl (by kernel_rfl) (by kernel_rfl) (by kernel_rfl) (fun _ _ _ h => h) (Or.inl ⟨by kernel_rfl, ?_⟩) hHeld ?_
    rotate_left
    · (intro w' hSw; obtain ⟨hS0, hS1, hS2, hS3, hS4, hS5⟩ := hSw; go_simp; try with_reducible rfl)
    simp only [Act.put, List.setIfInBounds_toArray, List.set_cons_zero, List.set_cons_succ, List.getElem_toArray, List.getElem_cons_succ, List.getElem_cons_zero]
    refine wpAnyH_take (i := 9) (v := ?_) rfl (by kernel_rfl) (by kernel_rfl) (by kernel_rfl) (fun _ _ _ h => h) (Or.inl ⟨by kernel_rfl, ?_⟩) hHeld ?_
    rotate_left
    · (intro w' hSw; obtain ⟨hS0, hS1, hS2, hS3, hS4, hS5⟩ := hSw; go_simp; try with_reducible rfl)
    simp only [Act.put, List.setIfInBounds_toArray, List.set_cons_zero, List.set_cons_succ, List.getElem_toArray, List.getElem_cons_succ, List.getElem_cons_zero]
    refine wpAnyH_take (i := 10) (v := ?_) rfl (by kernel_rfl) (by kernel_rfl) (by kernel_rfl) (fun _ _ _ h => h) (Or.inl ⟨by kernel_rfl, ?_⟩) hHeld ?_
    rotate_left
    · (intro w' hSw; obtain ⟨hS0, hS1, hS2, hS3, hS4, hS5⟩ := hSw; go_simp; try with_reducible rfl)
    simp only [Act.put, List.setIfInBounds_toArray, List.set_cons_zero, List.set_cons_succ, List.getElem_toArray, List.getElem_cons_succ, List.getElem_cons_zero]
    refine wpAnyH_take (i := 11) (v := ?_) rfl (by kernel_rfl) (by kernel_rfl) (by kernel_rfl) (fun _ _ _ h => h) (Or.inl ⟨by kernel_rfl, ?_⟩) hHeld ?_
    rotate_left
    · (intro w' hSw; obtain ⟨hS0, hS1, hS2, hS3, hS4, hS5⟩ := hSw; go_simp; try with_reducible rfl)
    simp only [Act.put, List.setIfInBounds_toArray, List.set_cons_zero, List.set_cons_succ, List.getElem_toArray, List.getElem_cons_succ, List.getElem_cons_zero]
    refine wpAnyH_take (i := 13) (v := ?_) rfl (by kernel_rfl) (by kernel_rfl) (by kernel_rfl) (fun _ _ _ h => h) (Or.inl ⟨by kernel_rfl, ?_⟩) hHeld ?_
    rotate_left
    · (intro w' hSw; obtain ⟨hS0, hS1, hS2, hS3, hS4, hS5⟩ := hSw; go_simp; try with_reducible rfl)
    simp only [Act.put, List.setIfInBounds_toArray, List.set_cons_zero, List.set_cons_succ, List.getElem_toArray, List.getElem_cons_succ, List.getElem_cons_zero]
    refine wpAnyH_take (i := 14) (v := ?_) rfl (by kernel_rfl) (by kernel_rfl) (by kernel_rfl) (fun _ _ _ h => h) (Or.inl ⟨by kernel_rfl, ?_⟩) hHeld ?_
    rotate_left
    · (intro w' hSw; obtain ⟨hS0, hS1, hS2, hS3, hS4, hS5⟩ := hSw; go_simp; try with_reducible rfl)
    simp only [Act.put, List.setIfInBounds_toArray, List.set_cons_zero, List.set_cons_succ, List.getElem_toArray, List.getElem_cons_succ, List.getElem_cons_zero]
    refine wpAnyH_take (i := 15) (v := ?_) rfl (by kernel_rfl) (by kernel_rfl) (by kernel_rfl) (fun _ _ _ h => h) (Or.inl ⟨by kernel_rfl, ?_⟩) hHeld ?_
    rotate_left
    · (intro w' hSw; obtain ⟨hS0, hS1, hS2, hS3, hS4, hS5⟩ := hSw; go_simp; try with_reducible rfl)
    simp only [Act.put, List.setIfInBounds_toArray, List.set_cons_zero, List.set_cons_succ, List.getElem_toArray, List.getElem_cons_succ, List.getElem_cons_zero]
    refine wpAnyH_take (i := 17) (v := ?_) rfl (by kernel_rfl) (by kernel_rfl) (by kernel_rfl) (fun _ _ _ h => h) (Or.inl ⟨by kernel_rfl, ?_⟩) hHeld ?_
    rotate_left
    · (intro w' hSw; obtain ⟨hS0, hS1, hS2, hS3, hS4, hS5⟩ := hSw; go_simp; try with_reducible rfl)
    simp only [Act.put, List.setIfInBounds_toArray, List.set_cons_zero, List.set_cons_succ, List.getElem_toArray, List.getElem_cons_succ, List.getElem_cons_zero]
    refine wpAnyH_take (i := 18) (v := ?_) rfl (by kernel_rfl) (by kernel_rfl) (by kernel_rfl) (fun _ _ _ h => h) (Or.inl ⟨by kernel_rfl, ?_⟩) hHeld ?_
    rotate_left
    · (intro w' hSw; obtain ⟨hS0, hS1, hS2, hS3, hS4, hS5⟩ := hSw; go_simp; try with_reducible rfl)
    simp only [Act.put, List.setIfInBounds_toArray, List.set_cons_zero, List.set_cons_succ, List.getElem_toArray, List.getElem_cons_succ, List.getElem_cons_zero]
    refine wpAnyH_take (i := 19) (v := ?_) rfl (by kernel_rfl) (by kernel_rfl) (by kernel_rfl) (fun _ _ _ h => h) (Or.inl ⟨by kernel_rfl, ?_⟩) hHeld ?_
    rotate_left
    · (intro w' hSw; obtain ⟨hS0, hS1, hS2, hS3, hS4, hS5⟩ := hSw; go_simp; try with_reducible rfl)
    simp only [Act.put, List.setIfInBounds_toArray, List.set_cons_zero, List.set_cons_succ, List.getElem_toArray, List.getElem_cons_succ, List.getElem_cons_zero]
    refine wpAnyH_take (i := 20) (v := ?_) rfl (by kernel_rfl) (by kernel_rfl) (by kernel_rfl) (fun _ _ _ h => h) (Or.inl ⟨by kernel_rfl, ?_⟩) hHeld ?_
    rotate_left
    · (intro w' hSw; obtain ⟨hS0, hS1, hS2, hS3, hS4, hS5⟩ := hSw; go_simp; try with_reducible rfl)
    simp only [Act.put, List.setIfInBounds_toArray, List.set_cons_zero, List.set_cons_succ, List.getElem_toArray, List.getElem_cons_succ, List.getElem_cons_zero]
    refine wpAnyH_take (i := 22) (v := ?_) rfl (by kernel_rfl) (by kernel_rfl) (by kernel_rfl) (fun _ _ _ h => h) (Or.inl ⟨by kernel_rfl, ?_⟩) hHeld ?_
    rotate_left
    · (intro w' hSw; obtain ⟨hS0, hS1, hS2, hS3, hS4, hS5⟩ := hSw; go_simp; try with_reducible rfl)
    simp only [Act.put, List.setIfInBounds_toArray, List.set_cons_zero, List.set_cons_succ, List.getElem_toArray, List.getElem_cons_succ, List.getElem_cons_zero]
    refine wpAnyH_take (i := 23) (v := ?_) rfl (by kernel_rfl) (by kernel_rfl) (by kernel_rfl) (fun _ _ _ h => h) (Or.inl ⟨by kernel_rfl, ?_⟩) hHeld ?_
    rotate_left
    · (intro w' hSw; obtain ⟨hS0, hS1, hS2, hS3, hS4, hS5⟩ := hSw; go_simp; try with_reducible rfl)
    simp only [Act.put, List.setIfInBounds_toArray, List.set_cons_zero, List.set_cons_succ, List.getElem_toArray, List.getElem_cons_succ, List.getElem_cons_zero]
    refine wpAnyH_take (i := 24) (v := ?_) rfl (by kernel_rfl) (by kernel_rfl) (by kernel_rfl) (fun _ _ _ h => h) (Or.inl ⟨by kernel_rfl, ?_⟩) hHeld ?_
    rotate_left
    · (intro w' hSw; obtain ⟨hS0, hS1, hS2, hS3, hS4, hS5⟩ := hSw; go_simp; try with_reducible rfl)
    simp only [Act.put, List.setIfInBounds_toArray, List.set_cons_zero, List.set_cons_succ, List.getElem_toArray, List.getElem_cons_succ, List.getElem_cons_zero]
    refine wpAnyH_take (i := 25) (v := ?_) rfl (by kernel_rfl) (by kernel_rfl) (by kernel_rfl) (fun _ _ _ h => h) (Or.inl ⟨by kernel_rfl, ?_⟩) hHeld ?_
    rotate_left
    · (intro w' hSw; obtain ⟨hS0, hS1, hS2, hS3, hS4, hS5⟩ := hSw; go_simp; try with_reducible rfl)
    simp only [Act.put, List.setIfInBounds_toArray, List.set_cons_zero, List.set_cons_succ, List.getElem_toArray, List.getElem_cons_succ, List.getElem_cons_zero]
    generalize hW0 : W.drew = W0
    rw [hW0] at hI0
    clear hW0
    refine wpAnyH_ready (rs := [7, 28]) (by kernel_rfl) (by simp) ?_
    refine AllReadyH.cons rfl (fun K hK => ?_) ?_
    · skip
      go_simp
      (with_reducible refine (HCL.out.1 _ _ hI0.fq hI0.fb).mono ?_)
      rintro e1 W1 ⟨rfl, hq1, hb1, ho1⟩
      have hI1 := hI0.call hbw hq1 hb1
      refine hK.out _ _ (by exact hI1.ft) (fun hHeld => ?_)
      clear hK K
      (try simp only [Act.put, List.setIfInBounds_toArray, List.set_cons_zero, List.set_cons_succ, List.getElem_toArray, List.getElem_cons_succ, List.getElem_cons_zero])
      refine wpAnyH_ready (rs := [12, 28]) (by kernel_rfl) (by simp) ?_
      refine AllReadyH.cons rfl (fun K hK => ?_) ?_
      · skip
        go_simp
        (with_reducible refine (HCL.out.2.1 _ _ hI1.fq hI1.fb).mono ?_)
        rintro e2 W2 ⟨rfl, hq2, hb2, ho2⟩
        have hI2 := hI1.call hbw hq2 hb2
        refine hK.out _ _ (by exact hI2.ft) (fun hHeld => ?_)
        clear hK K
        (try simp only [Act.put, List.setIfInBounds_toArray, List.set_cons_zero, List.set_cons_succ, List.getElem_toArray, List.getElem_cons_succ, List.getElem_cons_zero])
        refine wpAnyH_ready (rs := [16, 28]) (by kernel_rfl) (by simp) ?_
        refine AllReadyH.cons rfl (fun K hK => ?_) ?_
        · skip
          go_simp
          (with_reducible refine (HCL.out.2.2.1 _).mono ?_)
          rintro e2 w22 ⟨rfl, rfl⟩
          refine hK.out _ _ (by exact hI2.ft) (fun hHeld => ?_)
          clear hK K
          (try simp only [Act.put, List.setIfInBounds_toArray, List.set_cons_zero, List.set_cons_succ, List.getElem_toArray, List.getElem_cons_succ, List.getElem_cons_zero])
          refine wpAnyH_ready (rs := [21, 28]) (by kernel_rfl) (by simp) ?_
          refine AllReadyH.cons rfl (fun K hK => ?_) ?_
          · skip
            go_simp
            (with_reducible refine (HCL.out.2.2.2.1 _ _ hI2.fq hI2.fb).mono ?_)
            rintro e3 W3 ⟨rfl, hq3, hb3, ho3⟩
            have hI3 := hI2.call hbw hq3 hb3
            refine hK.out _ _ (by exact hI3.ft) (fun hHeld => ?_)
            clear hK K
            (try simp only [Act.put, List.setIfInBounds_toArray, List.set_cons_zero, List.set_cons_succ, List.getElem_toArray, List.getElem_cons_succ, List.getElem_cons_zero])
            refine wpAnyH_ready (rs := [26, 28]) (by kernel_rfl) (by simp) ?_
            refine AllReadyH.cons rfl (fun K hK => ?_) ?_
            · skip
              go_simp
              (with_reducible refine (HCL.out.2.2.2.2 _ _ hI3.fq hI3.fb).mono ?_)
              rintro e4 W4 ⟨rfl, hq4, hb4, ho4⟩
              have hI4 := hI3.call hbw hq4 hb4
              refine hK.out _ _ (by exact hI4.ft) (fun hHeld => ?_)
              clear hK K
              (try simp only [Act.put, List.setIfInBounds_toArray, List.set_cons_zero, List.set_cons_succ, List.getElem_toArray, List.getElem_cons_succ, List.getElem_cons_zero])
              refine wpAnyH_take (i := 27) (v := ?_) rfl (by kernel_rfl) (by kernel_rfl) (by kernel_rfl) (fun _ _ _ h => h) (Or.inl ⟨by kernel_rfl, ?_⟩) hHeld ?_
              rotate_left
              · (intro w' hSw; obtain ⟨hS0, hS1, hS2, hS3, hS4, hS5⟩ := hSw; go_simp; try with_reducible rfl)
              simp only [Act.put, List.setIfInBounds_toArray, List.set_cons_zero, List.set_cons_succ, List.getElem_toArray, List.getElem_cons_succ, List.getElem_cons_zero]
              refine wpAnyH_ready (rs := [28]) (by kernel_rfl) (by simp) (AllReadyH.cons rfl (fun K hK => ?_) AllReadyH.nil)
              go_simp
              have hI5 := hI4.alloc hbw (.cells ZS.toArray 31)
              have hz5 : (W4.alloc (.cells ZS.toArray 31)).heap[W4.heap.size]? = some (.cells ZS.toArray 31 (0, 0)) := heap_alloc_new W4 _
              have hne8 : W4.heap.size ≠ w1.heap.size := by have := blk_lt hI4.fq; omega
              have hle8 : w1.heap.size ≤ W4.heap.size := hI4.fb.size
              rw [← HZ.out.1] at hI5 hz5
              generalize hA : World.alloc _ _ = W5
              rw [show W4.alloc (.cells (snL Pl.zeroS cx0).toArray 31) = W5 from hA] at hI5 hz5
              rw [HZ.out.1] at hz5
              obtain ⟨H8, hH8⟩ : ∃ H, W4.heap.size = H := ⟨_, rfl⟩
              rw [hH8] at hz5 hne8 hle8 ⊢
              clear hA hH8
              refine hK.out _ _ (by exact hI5.ft) (fun hHeld => ?_)
              clear hK K
              (try simp only [Act.put, List.setIfInBounds_toArray, List.set_cons_zero, List.set_cons_succ, List.getElem_toArray, List.getElem_cons_succ, List.getElem_cons_zero])
              refine wpAnyH_ready (rs := [29]) (by kernel_rfl) (by simp) (AllReadyH.cons rfl (fun K hK => ?_) AllReadyH.nil)
              refine wp_store_mid 31 _ _ rfl H8 0 L0.toArray rfl (by rw [← HL0.out.1]; with_unfolding_all rfl) (there_row hz5 (by rw [HL0.out.2.1, HZ.out.2.2.2.2]; exact Nat.le_refl _)) (by rw [HL0.out.2.1]; exact info_snap) HL0.out.2.2 ?_
              have hz9 : (W5.setCells H8 0 L0).heap[H8]? = some (.cells L0.toArray 31 (0, 0)) := heap_setCells_all hz5 (by have h1 := HL0.out.2.1; have h2 := HZ.out.2.2.2.2; simp at h1 h2; omega)
              have hb9 : Below w1.heap.size W5 (W5.setCells H8 0 L0) := Lib.below_setCells_w hle8 _ _ _
              have hq9 : boolAt (W5.setCells H8 0 L0) w1.heap.size _ := (World.heap_setCells_other _ _ _ _ (blk_lt hI5.fq) hne8.symm).trans hI5.fq
              refine hK.out _ _ (by exact hI5.ft.below hbw hb9) (fun hHeld => ?_)
              clear hK K
              (try simp only [Act.put, List.setIfInBounds_toArray, List.set_cons_zero, List.set_cons_succ, List.getElem_toArray, List.getElem_cons_succ, List.getElem_cons_zero])
              refine wpAnyH_done (by kernel_rfl) ?_ _
              go_wp2_with fail
              go_meet
              case rel => exact ⟨H8, rfl, hne8, hle8, hz9, hq9, hI5.fb.trans hb9⟩
            · refine AllReadyH.cons rfl (fun K hK => ?_) ?_
              · skip
                go_simp
                have hI4 := hI3.alloc hbw (.cells ZS.toArray 31)
                have hz4 : (W3.alloc (.cells ZS.toArray 31)).heap[W3.heap.size]? = some (.cells ZS.toArray 31 (0, 0)) := heap_alloc_new W3 _
                have hne8 : W3.heap.size ≠ w1.heap.size := by have := blk_lt hI3.fq; omega
                have hle8 : w1.heap.size ≤ W3.heap.size := hI3.fb.size
                rw [← HZ.out.1] at hI4 hz4
                generalize hA : World.alloc _ _ = W4
                rw [show W3.alloc (.cells (snL Pl.zeroS cx0).toArray 31) = W4 from hA] at hI4 hz4
                rw [HZ.out.1] at hz4
                obtain ⟨H8, hH8⟩ : ∃ H, W3.heap.size = H := ⟨_, rfl⟩
                rw [hH8] at hz4 hne8 hle8 ⊢
                clear hA hH8
                refine hK.out _ _ (by exact hI4.ft) (fun hHeld => ?_)
                clear hK K
                (try simp only [Act.put, List.setIfInBounds_toArray, List.set_cons_zero, List.set_cons_succ, List.getElem_toArray, List.getElem_cons_succ, List.getElem_cons_zero])
                refine wpAnyH_ready (rs := [26]) (by kernel_rfl) (by simp) (AllReadyH.cons rfl (fun K hK => ?_) AllReadyH.nil)
                go_simp
                (with_reducible refine (HCL.out.2.2.2.2 _ _ hI4.fq hI4.fb).mono ?_)
                rintro e5 W5 ⟨rfl, hq5, hb5, ho5⟩
                have hI5 := hI4.call hbw hq5 hb5
                have hz5 := (ho5 H8 hne8 (blk_lt hz4)).trans hz4
                refine hK.out _ _ (by exact hI5.ft) (fun hHeld => ?_)
                clear hK K
                (try simp only [Act.put, List.setIfInBounds_toArray, List.set_cons_zero, List.set_cons_succ, List.getElem_toArray, List.getElem_cons_succ, List.getElem_cons_zero])
                refine wpAnyH_take (i := 27) (v := ?_) rfl (by kernel_rfl) (by kernel_rfl) (by kernel_rfl) (fun _ _ _ h => h) (Or.inl ⟨by kernel_rfl, ?_⟩) hHeld ?_
                rotate_left
                · (intro w' hSw; obtain ⟨hS0, hS1, hS2, hS3, hS4, hS5⟩ := hSw; go_simp; try with_reducible rfl)
                simp only [Act.put, List.setIfInBounds_toArray, List.set_cons_zero, List.set_cons_succ, List.getElem_toArray, List.getElem_cons_succ, List.getElem_cons_zero]
                refine wpAnyH_ready (rs := [29]) (by kernel_rfl) (by simp) (AllReadyH.cons rfl (fun K hK => ?_) AllReadyH.nil)
                refine wp_store_mid 31 _ _ rfl H8 0 L0.toArray rfl (by rw [← HL0.out.1]; with_unfolding_all rfl) (there_row hz5 (by rw [HL0.out.2.1, HZ.out.2.2.2.2]; exact Nat.le_refl _)) (by rw [HL0.out.2.1]; exact info_snap) HL0.out.2.2 ?_
                have hz9 : (W5.setCells H8 0 L0).heap[H8]? = some (.cells L0.toArray 31 (0, 0)) := heap_setCells_all hz5 (by have h1 := HL0.out.2.1; have h2 := HZ.out.2.2.2.2; simp at h1 h2; omega)
                have hb9 : Below w1.heap.size W5 (W5.setCells H8 0 L0) := Lib.below_setCells_w hle8 _ _ _
                have hq9 : boolAt (W5.setCells H8 0 L0) w1.heap.size _ := (World.heap_setCells_other _ _ _ _ (blk_lt hI5.fq) hne8.symm).trans hI5.fq
                refine hK.out _ _ (by exact hI5.ft.below hbw hb9) (fun hHeld => ?_)
                clear hK K
                (try simp only [Act.put, List.setIfInBounds_toArray, List.set_cons_zero, List.set_cons_succ, List.getElem_toArray, List.getElem_cons_succ, List.getElem_cons_zero])
                refine wpAnyH_done (by kernel_rfl) ?_ _
                go_wp2_with fail
                go_meet
                case rel => exact ⟨H8, rfl, hne8, hle8, hz9, hq9, hI5.fb.trans hb9⟩
              · exact AllReadyH.nil
          · refine AllReadyH.cons rfl (fun K hK => ?_) ?_
            · skip
              go_simp
              have hI3 := hI2.alloc hbw (.cells ZS.toArray 31)
              have hz3 : (W2.alloc (.cells ZS.toArray 31)).heap[W2.heap.size]? = some (.cells ZS.toArray 31 (0, 0)) := heap_alloc_new W2 _
              have hne8 : W2.heap.size ≠ w1.heap.size := by have := blk_lt hI2.fq; omega
              have hle8 : w1.heap.size ≤ W2.heap.size := hI2.fb.size
              rw [← HZ.out.1] at hI3 hz3
              generalize hA : World.alloc _ _ = W3
              rw [show W2.alloc (.cells (snL Pl.zeroS cx0).toArray 31) = W3 from hA] at hI3 hz3
              rw [HZ.out.1] at hz3
              obtain ⟨H8, hH8⟩ : ∃ H, W2.heap.size = H := ⟨_, rfl⟩
              rw [hH8] at hz3 hne8 hle8 ⊢
              clear hA hH8
              refine hK.out _ _ (by exact hI3.ft) (fun hHeld => ?_)
              clear hK K
              (try simp only [Act.put, List.setIfInBounds_toArray, List.set_cons_zero, List.set_cons_succ, List.getElem_toArray, List.getElem_cons_succ, List.getElem_cons_zero])
              refine wpAnyH_ready (rs := [21]) (by kernel_rfl) (by simp) (AllReadyH.cons rfl (fun K hK => ?_) AllReadyH.nil)
              go_simp
              (with_reducible refine (HCL.out.2.2.2.1 _ _ hI3.fq hI3.fb).mono ?_)
              rintro e4 W4 ⟨rfl, hq4, hb4, ho4⟩
              have hI4 := hI3.call hbw hq4 hb4
              have hz4 := (ho4 H8 hne8 (blk_lt hz3)).trans hz3
              refine hK.out _ _ (by exact hI4.ft) (fun hHeld => ?_)
              clear hK K
              (try simp only [Act.put, List.setIfInBounds_toArray, List.set_cons_zero, List.set_cons_succ, List.getElem_toArray, List.getElem_cons_succ, List.getElem_cons_zero])
              refine wpAnyH_ready (rs := [26]) (by kernel_rfl) (by simp) (AllReadyH.cons rfl (fun K hK => ?_) AllReadyH.nil)
              go_simp
              (with_reducible refine (HCL.out.2.2.2.2 _ _ hI4.fq hI4.fb).mono ?_)
              rintro e5 W5 ⟨rfl, hq5, hb5, ho5⟩
              have hI5 := hI4.call hbw hq5 hb5
              have hz5 := (ho5 H8 hne8 (blk_lt hz4)).trans hz4
              refine hK.out _ _ (by exact hI5.ft) (fun hHeld => ?_)
              clear hK K
              (try simp only [Act.put, List.setIfInBounds_toArray, List.set_cons_zero, List.set_cons_succ, List.getElem_toArray, List.getElem_cons_succ, List.getElem_cons_zero])
              refine wpAnyH_take (i := 27) (v := ?_) rfl (by kernel_rfl) (by kernel_rfl) (by kernel_rfl) (fun _ _ _ h => h) (Or.inl ⟨by kernel_rfl, ?_⟩) hHeld ?_
              rotate_left
              · (intro w' hSw; obtain ⟨hS0, hS1, hS2, hS3, hS4, hS5⟩ := hSw; go_simp; try with_reducible rfl)
              simp only [Act.put, List.setIfInBounds_toArray, List.set_cons_zero, List.set_cons_succ, List.getElem_toArray, List.getElem_cons_succ, List.getElem_cons_zero]
              refine wpAnyH_ready (rs := [29]) (by kernel_rfl) (by simp) (AllReadyH.cons rfl (fun K hK => ?_) AllReadyH.nil)
              refine wp_store_mid 31 _ _ rfl H8 0 L0.toArray rfl (by rw [← HL0.out.1]; with_unfolding_all rfl) (there_row hz5 (by rw [HL0.out.2.1, HZ.out.2.2.2.2]; exact Nat.le_refl _)) (by rw [HL0.out.2.1]; exact info_snap) HL0.out.2.2 ?_
              have hz9 : (W5.setCells H8 0 L0).heap[H8]? = some (.cells L0.toArray 31 (0, 0)) := heap_setCells_all hz5 (by have h1 := HL0.out.2.1; have h2 := HZ.out.2.2.2.2; simp at h1 h2; omega)
              have hb9 : Below w1.heap.size W5 (W5.setCells H8 0 L0) := Lib.below_setCells_w hle8 _ _ _
              have hq9 : boolAt (W5.setCells H8 0 L0) w1.heap.size _ := (World.heap_setCells_other _ _ _ _ (blk_lt hI5.fq) hne8.symm).trans hI5.fq
              refine hK.out _ _ (by exact hI5.ft.below hbw hb9) (fun hHeld => ?_)
              clear hK K
              (try simp only [Act.put, List.setIfInBounds_toArray, List.set_cons_zero, List.set_cons_succ, List.getElem_toArray, List.getElem_cons_succ, List.getElem_cons_zero])
              refine wpAnyH_done (by kernel_rfl) ?_ _
              go_wp2_with fail
              go_meet
              case rel => exact ⟨H8, rfl, hne8, hle8, hz9, hq9, hI5.fb.trans hb9⟩
            · exact AllReadyH.nil
        · refine AllReadyH.cons rfl (fun K hK => ?_) ?_
          · skip
            go_simp
            have hI3 := hI2.alloc hbw (.cells ZS.toArray 31)
            have hz3 : (W2.alloc (.cells ZS.toArray 31)).heap[W2.heap.size]? = some (.cells ZS.toArray 31 (0, 0)) := heap_alloc_new W2 _
            have hne8 : W2.heap.size ≠ w1.heap.size := by have := blk_lt hI2.fq; omega
            have hle8 : w1.heap.size ≤ W2.heap.size := hI2.fb.size
            rw [← HZ.out.1] at hI3 hz3
            generalize hA : World.alloc _ _ = W3
            rw [show W2.alloc (.cells (snL Pl.zeroS cx0).toArray 31) = W3 from hA] at hI3 hz3
            rw [HZ.out.1] at hz3
            obtain ⟨H8, hH8⟩ : ∃ H, W2.heap.size = H := ⟨_, rfl⟩
            rw [hH8] at hz3 hne8 hle8 ⊢
            clear hA hH8
            refine hK.out _ _ (by exact hI3.ft) (fun hHeld => ?_)
            clear hK K
            (try simp only [Act.put, List.setIfInBounds_toArray, List.set_cons_zero, List.set_cons_succ, List.getElem_toArray, List.getElem_cons_succ, List.getElem_cons_zero])
            refine wpAnyH_ready (rs := [16]) (by kernel_rfl) (by simp) (AllReadyH.cons rfl (fun K hK => ?_) AllReadyH.nil)
            go_simp
            (with_reducible refine (HCL.out.2.2.1 _).mono ?_)
            rintro e3 w23 ⟨rfl, rfl⟩
            refine hK.out _ _ (by exact hI3.ft) (fun hHeld => ?_)
            clear hK K
            (try simp only [Act.put, List.setIfInBounds_toArray, List.set_cons_zero, List.set_cons_succ, List.getElem_toArray, List.getElem_cons_succ, List.getElem_cons_zero])
            refine wpAnyH_ready (rs := [21]) (by kernel_rfl) (by simp) (AllReadyH.cons rfl (fun K hK => ?_) AllReadyH.nil)
            go_simp
            (with_reducible refine (HCL.out.2.2.2.1 _ _ hI3.fq hI3.fb).mono ?_)
            rintro e4 W4 ⟨rfl, hq4, hb4, ho4⟩
            have hI4 := hI3.call hbw hq4 hb4
            have hz4 := (ho4 H8 hne8 (blk_lt hz3)).trans hz3
            refine hK.out _ _ (by exact hI4.ft) (fun hHeld => ?_)
            clear hK K
            (try simp only [Act.put, List.setIfInBounds_toArray, List.set_cons_zero, List.set_cons_succ, List.getElem_toArray, List.getElem_cons_succ, List.getElem_cons_zero])
            refine wpAnyH_ready (rs := [26]) (by kernel_rfl) (by simp) (AllReadyH.cons rfl (fun K hK => ?_) AllReadyH.nil)
            go_simp
            (with_reducible refine (HCL.out.2.2.2.2 _ _ hI4.fq hI4.fb).mono ?_)
            rintro e5 W5 ⟨rfl, hq5, hb5, ho5⟩
            have hI5 := hI4.call hbw hq5 hb5
            have hz5 := (ho5 H8 hne8 (blk_lt hz4)).trans hz4
            refine hK.out _ _ (by exact hI5.ft) (fun hHeld => ?_)
            clear hK K
            (try simp only [Act.put, List.setIfInBounds_toArray, List.set_cons_zero, List.set_cons_succ, List.getElem_toArray, List.getElem_cons_succ, List.getElem_cons_zero])
            refine wpAnyH_take (i := 27) (v := ?_) rfl (by kernel_rfl) (by kernel_rfl) (by kernel_rfl) (fun _ _ _ h => h) (Or.inl ⟨by kernel_rfl, ?_⟩) hHeld ?_
            rotate_left
            · (intro w' hSw; obtain ⟨hS0, hS1, hS2, hS3, hS4, hS5⟩ := hSw; go_simp; try with_reducible rfl)
            simp only [Act.put, List.setIfInBounds_toArray, List.set_cons_zero, List.set_cons_succ, List.getElem_toArray, List.getElem_cons_succ, List.getElem_cons_zero]
            refine wpAnyH_ready (rs := [29]) (by kernel_rfl) (by simp) (AllReadyH.cons rfl (fun K hK => ?_) AllReadyH.nil)
            refine wp_store_mid 31 _ _ rfl H8 0 L0.toArray rfl (by rw [← HL0.out.1]; with_unfolding_all rfl) (there_row hz5 (by rw [HL0.out.2.1, HZ.out.2.2.2.2]; exact Nat.le_refl _)) (by rw [HL0.out.2.1]; exact info_snap) HL0.out.2.2 ?_
            have hz9 : (W5.setCells H8 0 L0).heap[H8]? = some (.cells L0.toArray 31 (0, 0)) := heap_setCells_all hz5 (by have h1 := HL0.out.2.1; have h2 := HZ.out.2.2.2.2; simp at h1 h2; omega)
            have hb9 : Below w1.heap.size W5 (W5.setCells H8 0 L0) := Lib.below_setCells_w hle8 _ _ _
            have hq9 : boolAt (W5.setCells H8 0 L0) w1.heap.size _ := (World.heap_setCells_other _ _ _ _ (blk_lt hI5.fq) hne8.symm).trans hI5.fq
            refine hK.out _ _ (by exact hI5.ft.below hbw hb9) (fun hHeld => ?_)
            clear hK K
            (try simp only [Act.put, List.setIfInBounds_toArray, List.set_cons_zero, List.set_cons_succ, List.getElem_toArray, List.getElem_cons_succ, List.getElem_cons_zero])
            refine wpAnyH_done (by kernel_rfl) ?_ _
            go_wp2_with fail
            go_meet
            case rel => exact ⟨H8, rfl, hne8, hle8, hz9, hq9, hI5.fb.trans hb9⟩
          · exact AllReadyH.nil
      · refine AllReadyH.cons rfl (fun K hK => ?_) ?_
        · skip
          go_simp
          have hI2 := hI1.alloc hbw (.cells ZS.toArray 31)
          have hz2 : (W1.alloc (.cells ZS.toArray 31)).heap[W1.heap.size]? = some (.cells ZS.toArray 31 (0, 0)) := heap_alloc_new W1 _
          have hne8 : W1.heap.size ≠ w1.heap.size := by have := blk_lt hI1.fq; omega
          have hle8 : w1.heap.size ≤ W1.heap.size := hI1.fb.size
          rw [← HZ.out.1] at hI2 hz2
          generalize hA : World.alloc _ _ = W2
          rw [show W1.alloc (.cells (snL Pl.zeroS cx0).toArray 31) = W2 from hA] at hI2 hz2
          rw [HZ.out.1] at hz2
          obtain ⟨H8, hH8⟩ : ∃ H, W1.heap.size = H := ⟨_, rfl⟩
          rw [hH8] at hz2 hne8 hle8 ⊢
          clear hA hH8
          refine hK.out _ _ (by exact hI2.ft) (fun hHeld => ?_)
          clear hK K
          (try simp only [Act.put, List.setIfInBounds_toArray, List.set_cons_zero, List.set_cons_succ, List.getElem_toArray, List.getElem_cons_succ, List.getElem_cons_zero])
          refine wpAnyH_ready (rs := [12]) (by kernel_rfl) (by simp) (AllReadyH.cons rfl (fun K hK => ?_) AllReadyH.nil)
          go_simp
          (with_reducible refine (HCL.out.2.1 _ _ hI2.fq hI2.fb).mono ?_)
          rintro e3 W3 ⟨rfl, hq3, hb3, ho3⟩
          have hI3 := hI2.call hbw hq3 hb3
          have hz3 := (ho3 H8 hne8 (blk_lt hz2)).trans hz2
          refine hK.out _ _ (by exact hI3.ft) (fun hHeld => ?_)
          clear hK K
          (try simp only [Act.put, List.setIfInBounds_toArray, List.set_cons_zero, List.set_cons_succ, List.getElem_toArray, List.getElem_cons_succ, List.getElem_cons_zero])
          refine wpAnyH_ready (rs := [16]) (by kernel_rfl) (by simp) (AllReadyH.cons rfl (fun K hK => ?_) AllReadyH.nil)
          go_simp
          (with_reducible refine (HCL.out.2.2.1 _).mono ?_)
          rintro e3 w23 ⟨rfl, rfl⟩
          refine hK.out _ _ (by exact hI3.ft) (fun hHeld => ?_)
          clear hK K
          (try simp only [Act.put, List.setIfInBounds_toArray, List.set_cons_zero, List.set_cons_succ, List.getElem_toArray, List.getElem_cons_succ, List.getElem_cons_zero])
          refine wpAnyH_ready (rs := [21]) (by kernel_rfl) (by simp) (AllReadyH.cons rfl (fun K hK => ?_) AllReadyH.nil)
          go_simp
          (with_reducible refine (HCL.out.2.2.2.1 _ _ hI3.fq hI3.fb).mono ?_)
          rintro e4 W4 ⟨rfl, hq4, hb4, ho4⟩
          have hI4 := hI3.call hbw hq4 hb4
          have hz4 := (ho4 H8 hne8 (blk_lt hz3)).trans hz3
          refine hK.out _ _ (by exact hI4.ft) (fun hHeld => ?_)
          clear hK K
          (try simp only [Act.put, List.setIfInBounds_toArray, List.set_cons_zero, List.set_cons_succ, List.getElem_toArray, List.getElem_cons_succ, List.getElem_cons_zero])
          refine wpAnyH_ready (rs := [26]) (by kernel_rfl) (by simp) (AllReadyH.cons rfl (fun K hK => ?_) AllReadyH.nil)
          go_simp
          (with_reducible refine (HCL.out.2.2.2.2 _ _ hI4.fq hI4.fb).mono ?_)
          rintro e5 W5 ⟨rfl, hq5, hb5, ho5⟩
          have hI5 := hI4.call hbw hq5 hb5
          have hz5 := (ho5 H8 hne8 (blk_lt hz4)).trans hz4
          refine hK.out _ _ (by exact hI5.ft) (fun hHeld => ?_)
          clear hK K
          (try simp only [Act.put, List.setIfInBounds_toArray, List.set_cons_zero, List.set_cons_succ, List.getElem_toArray, List.getElem_cons_succ, List.getElem_cons_zero])
          refine wpAnyH_take (i := 27) (v := ?_) rfl (by kernel_rfl) (by kernel_rfl) (by kernel_rfl) (fun _ _ _ h => h) (Or.inl ⟨by kernel_rfl, ?_⟩) hHeld ?_
          rotate_left
          · (intro w' hSw; obtain ⟨hS0, hS1, hS2, hS3, hS4, hS5⟩ := hSw; go_simp; try with_reducible rfl)
          simp only [Act.put, List.setIfInBounds_toArray, List.set_cons_zero, List.set_cons_succ, List.getElem_toArray, List.getElem_cons_succ, List.getElem_cons_zero]
          refine wpAnyH_ready (rs := [29]) (by kernel_rfl) (by simp) (AllReadyH.cons rfl (fun K hK => ?_) AllReadyH.nil)
          refine wp_store_mid 31 _ _ rfl H8 0 L0.toArray rfl (by rw [← HL0.out.1]; with_unfolding_all rfl) (there_row hz5 (by rw [HL0.out.2.1, HZ.out.2.2.2.2]; exact Nat.le_refl _)) (by rw [HL0.out.2.1]; exact info_snap) HL0.out.2.2 ?_
          have hz9 : (W5.setCells H8 0 L0).heap[H8]? = some (.cells L0.toArray 31 (0, 0)) := heap_setCells_all hz5 (by have h1 := HL0.out.2.1; have h2 := HZ.out.2.2.2.2; simp at h1 h2; omega)
          have hb9 : Below w1.heap.size W5 (W5.setCells H8 0 L0) := Lib.below_setCells_w hle8 _ _ _
          have hq9 : boolAt (W5.setCells H8 0 L0) w1.heap.size _ := (World.heap_setCells_other _ _ _ _ (blk_lt hI5.fq) hne8.symm).trans hI5.fq
          refine hK.out _ _ (by exact hI5.ft.below hbw hb9) (fun hHeld => ?_)
          clear hK K
          (try simp only [Act.put, List.setIfInBounds_toArray, List.set_cons_zero, List.set_cons_succ, List.getElem_toArray, List.getElem_cons_succ, List.getElem_cons_zero])
          refine wpAnyH_done (by kernel_rfl) ?_ _
          go_wp2_with fail
          go_meet
          case rel => exact ⟨H8, rfl, hne8, hle8, hz9, hq9, hI5.fb.trans hb9⟩
        · exact AllReadyH.nil
    · refine AllReadyH.cons rfl (fun K hK => ?_) ?_
      · skip
        go_simp
        have hI1 := hI0.alloc hbw (.cells ZS.toArray 31)
        have hz1 : (W0.alloc (.cells ZS.toArray 31)).heap[W0.heap.size]? = some (.cells ZS.toArray 31 (0, 0)) := heap_alloc_new W0 _
        have hne8 : W0.heap.size ≠ w1.heap.size := by have := blk_lt hI0.fq; omega
        have hle8 : w1.heap.size ≤ W0.heap.size := hI0.fb.size
        rw [← HZ.out.1] at hI1 hz1
        generalize hA : World.alloc _ _ = W1
        rw [show W0.alloc (.cells (snL Pl.zeroS cx0).toArray 31) = W1 from hA] at hI1 hz1
        rw [HZ.out.1] at hz1
        obtain ⟨H8, hH8⟩ : ∃ H, W0.heap.size = H := ⟨_, rfl⟩
        rw [hH8] at hz1 hne8 hle8 ⊢
        clear hA hH8
        refine hK.out _ _ (by exact hI1.ft) (fun hHeld => ?_)
        clear hK K
        (try simp only [Act.put, List.setIfInBounds_toArray, List.set_cons_zero, List.set_cons_succ, List.getElem_toArray, List.getElem_cons_succ, List.getElem_cons_zero])
        refine wpAnyH_ready (rs := [7]) (by kernel_rfl) (by simp) (AllReadyH.cons rfl (fun K hK => ?_) AllReadyH.nil)
        go_simp
        (with_reducible refine (HCL.out.1 _ _ hI1.fq hI1.fb).mono ?_)
        rintro e2 W2 ⟨rfl, hq2, hb2, ho2⟩
        have hI2 := hI1.call hbw hq2 hb2
        have hz2 := (ho2 H8 hne8 (blk_lt hz1)).trans hz1
        refine hK.out _ _ (by exact hI2.ft) (fun hHeld => ?_)
        clear hK K
        (try simp only [Act.put, List.setIfInBounds_toArray, List.set_cons_zero, List.set_cons_succ, List.getElem_toArray, List.getElem_cons_succ, List.getElem_cons_zero])
        refine wpAnyH_ready (rs := [12]) (by kernel_rfl) (by simp) (AllReadyH.cons rfl (fun K hK => ?_) AllReadyH.nil)
        go_simp
        (with_reducible refine (HCL.out.2.1 _ _ hI2.fq hI2.fb).mono ?_)
        rintro e3 W3 ⟨rfl, hq3, hb3, ho3⟩
        have hI3 := hI2.call hbw hq3 hb3
        have hz3 := (ho3 H8 hne8 (blk_lt hz2)).trans hz2
        refine hK.out _ _ (by exact hI3.ft) (fun hHeld => ?_)
        clear hK K
        (try simp only [Act.put, List.setIfInBounds_toArray, List.set_cons_zero, List.set_cons_succ, List.getElem_toArray, List.getElem_cons_succ, List.getElem_cons_zero])
        refine wpAnyH_ready (rs := [16]) (by kernel_rfl) (by simp) (AllReadyH.cons rfl (fun K hK => ?_) AllReadyH.nil)
        go_simp
        (with_reducible refine (HCL.out.2.2.1 _).mono ?_)
        rintro e3 w23 ⟨rfl, rfl⟩
        refine hK.out _ _ (by exact hI3.ft) (fun hHeld => ?_)
        clear hK K
        (try simp only [Act.put, List.setIfInBounds_toArray, List.set_cons_zero, List.set_cons_succ, List.getElem_toArray, List.getElem_cons_succ, List.getElem_cons_zero])
        refine wpAnyH_ready (rs := [21]) (by kernel_rfl) (by simp) (AllReadyH.cons rfl (fun K hK => ?_) AllReadyH.nil)
        go_simp
        (with_reducible refine (HCL.out.2.2.2.1 _ _ hI3.fq hI3.fb).mono ?_)
        rintro e4 W4 ⟨rfl, hq4, hb4, ho4⟩
        have hI4 := hI3.call hbw hq4 hb4
        have hz4 := (ho4 H8 hne8 (blk_lt hz3)).trans hz3
        refine hK.out _ _ (by exact hI4.ft) (fun hHeld => ?_)
        clear hK K
        (try simp only [Act.put, List.setIfInBounds_toArray, List.set_cons_zero, List.set_cons_succ, List.getElem_toArray, List.getElem_cons_succ, List.getElem_cons_zero])
        refine wpAnyH_ready (rs := [26]) (by kernel_rfl) (by simp) (AllReadyH.cons rfl (fun K hK => ?_) AllReadyH.nil)
        go_simp
        (with_reducible refine (HCL.out.2.2.2.2 _ _ hI4.fq hI4.fb).mono ?_)
        rintro e5 W5 ⟨rfl, hq5, hb5, ho5⟩
        have hI5 := hI4.call hbw hq5 hb5
        have hz5 := (ho5 H8 hne8 (blk_lt hz4)).trans hz4
        refine hK.out _ _ (by exact hI5.ft) (fun hHeld => ?_)
        clear hK K
        (try simp only [Act.put, List.setIfInBounds_toArray, List.set_cons_zero, List.set_cons_succ, List.getElem_toArray, List.getElem_cons_succ, List.getElem_cons_zero])
        refine wpAnyH_take (i := 27) (v := ?_) rfl (by kernel_rfl) (by kernel_rfl) (by kernel_rfl) (fun _ _ _ h => h) (Or.inl ⟨by kernel_rfl, ?_⟩) hHeld ?_
        rotate_left
        · (intro w' hSw; obtain ⟨hS0, hS1, hS2, hS3, hS4, hS5⟩ := hSw; go_simp; try with_reducible rfl)
        simp only [Act.put, List.setIfInBounds_toArray, List.set_cons_zero, List.set_cons_succ, List.getElem_toArray, List.getElem_cons_succ, List.getElem_cons_zero]
        refine wpAnyH_ready (rs := [29]) (by kernel_rfl) (by simp) (AllReadyH.cons rfl (fun K hK => ?_) AllReadyH.nil)
        refine wp_store_mid 31 _ _ rfl H8 0 L0.toArray rfl (by rw [← HL0.out.1]; with_unfolding_all rfl) (there_row hz5 (by rw [HL0.out.2.1, HZ.out.2.2.2.2]; exact Nat.le_refl _)) (by rw [HL0.out.2.1]; exact info_snap) HL0.out.2.2 ?_
        have hz9 : (W5.setCells H8 0 L0).heap[H8]? = some (.cells L0.toArray 31 (0, 0)) := heap_setCells_all hz5 (by have h1 := HL0.out.2.1; have h2 := HZ.out.2.2.2.2; simp at h1 h2; omega)
        have hb9 : Below w1.heap.size W5 (W5.setCells H8 0 L0) := Lib.below_setCells_w hle8 _ _ _
        have hq9 : boolAt (W5.setCells H8 0 L0) w1.heap.size _ := (World.heap_setCells_other _ _ _ _ (blk_lt hI5.fq) hne8.symm).trans hI5.fq
        refine hK.out _ _ (by exact hI5.ft.below hbw hb9) (fun hHeld => ?_)
        clear hK K
        (try simp only [Act.put, List.setIfInBounds_toArray, List.set_cons_zero, List.set_cons_succ, List.getElem_toArray, List.getElem_cons_succ, List.getElem_cons_zero])
        refine wpAnyH_done (by kernel_rfl) ?_ _
        go_wp2_with fail
        go_meet
        case rel => exact ⟨H8, rfl, hne8, hle8, hz9, hq9, hI5.fb.trans hb9⟩
      · exact AllReadyH.nil
  case rest =>
    obtain ⟨H8, rfl, hne8, hle8, hz, hq, hbx⟩ := hcut
    have hfH : w.heap.size < w1.heap.size := blk_lt hR1
    obtain ⟨H, hH⟩ : ∃ H, w1.heap.size = H := ⟨_, rfl⟩
    have HR7 := Lib.hid (And.intro (show ∀ W, Below H w1 W → W.cell? ⟨b1, o1 + 7, none⟩ = some (.string ⟨x7.toArray⟩) from fun W hb => (hb.cell (p := ⟨b1, o1 + 7, none⟩) (by rw [← hH]; exact hbw)).trans (HR1.out 7 (by simp [strs]))) (And.intro (show ∀ W, Below H w1 W → W.cell? ⟨b1, o1 + 8, none⟩ = some (.string ⟨x8.toArray⟩) from fun W hb => (hb.cell (p := ⟨b1, o1 + 8, none⟩) (by rw [← hH]; exact hbw)).trans (HR1.out 8 (by simp [strs]))) (And.intro (show ∀ W, Below H w1 W → W.cell? ⟨b1, o1 + 9, none⟩ = some (.string ⟨x9.toArray⟩) from fun W hb => (hb.cell (p := ⟨b1, o1 + 9, none⟩) (by rw [← hH]; exact hbw)).trans (HR1.out 9 (by simp [strs]))) (show ∀ W, Below H w1 W → W.cell? ⟨b1, o1 + 10, none⟩ = some (.string ⟨x10.toArray⟩) from fun W hb => (hb.cell (p := ⟨b1, o1 + 10, none⟩) (by rw [← hH]; exact hbw)).trans (HR1.out 10 (by simp [strs]))))))
    have n7 := fun W => namesOf_any x7 W (by have := HME.out x7 (by simp); omega)
    have n8 := fun W => namesOf_any x8 W (by have := HME.out x8 (by simp); omega)
    have n9 := fun W => namesOf_any x9 W (by have := HME.out x9 (by simp); omega)
    have HNN := Lib.hid (And.intro n7 (And.intro n8 n9)); clear n7 n8 n9
    obtain ⟨l, hl⟩ : ∃ l, [[104, 105, 98, 109], x1, x2, x3, x4, x5, x6, x7, x8, x9, x10] = l := ⟨_, rfl⟩
    have HL := Lib.hid hl
    rw [hl] at HM HNO HOK hq HL0
    rw [← HL0.out.1] at hz
    clear hl
    rw [hH] at hne8 hle8 hq hbx ⊢
    have hHs : H < wc.heap.size := blk_lt hq
    have hH8s : H8 < wc.heap.size := blk_lt hz
    go_wp2_with fail
    go_loopw [9, 10, 11, 74] (fun _ _ _ i wr => ∃ (k : Nat) (X : Cx), k ≤ 3 ∧ i = .int .i64 (k : Nat) ∧ Hid (OfRows wc.heap.size H H8 l k X w1 wr)) (fun _ _ _ i _ => 3 - (intOf i).toNat)
    case atStart => exact ⟨0, cx0, by omega, rfl, ⟨hz, hq, hbx, Nat.le_refl _, World.ownsRow_nil _ _ _ _, World.ownsRow_nil _ _ _ _, World.ownsRow_nil _ _ _ _⟩⟩
    case round =>
      obtain ⟨k, X, hk, rfl, HO⟩ := hrel
      rcases (show k = 0 ∨ k = 1 ∨ k = 2 ∨ k = 3 by omega) with rfl | rfl | rfl | rfl
      · have hc7 := HR7.out.1 wr HO.out.b
        have hE7 := Lib.hid (show Pl.rowN (l.getD 7 []) = Pl.rowN x7 by rw [← HL.out]; rfl)
        have hF7 := Lib.hid (show Pl.allQ l 1 = (Pl.allQ l 0 && Pl.rowK x7) by rw [← HL.out]; rfl)
        obtain ⟨q, hq⟩ : ∃ q, Pl.allQ l 0 = q := ⟨_, rfl⟩
        go_wp2_with fail
        (with_reducible refine (HNN.out.1 _).mono ?_)
        rintro e w2 ⟨v, rfl, ⟨A2, cc, rfl, hown⟩, hb2⟩
        have HO2 := Lib.hid (HO.out.below hHs hb2)
        have hown2 := hown.mono HO.out.s
        rw [← hE7.out] at hown2 ⊢
        obtain ⟨r, hr⟩ : ∃ r, Pl.rowK x7 = r := ⟨_, rfl⟩
        rw [hr]
        have hF := hF7.out
        rw [hq, hr] at hF
        have hbq := HO2.out.q
        rw [hq] at hbq
        have hcq : w2.cell? ⟨H, 0, none⟩ = some (.bool q) := by rw [cell_row w2 H 0 _ _ hbq]; rfl
        have hfq : w2.frozen? ⟨H, 0, none⟩ = false := frozen_of w2 H 0 _ _ hbq
        have hc8 : w2.cell? ⟨H8, 6, none⟩ = some (.slice X.A0 X.n0 X.k0) := by rw [cell_row w2 H8 6 _ _ HO2.out.z]; rfl
        have hf8 : w2.frozen? ⟨H8, 6, none⟩ = false := frozen_of w2 H8 6 _ _ HO2.out.z
        have hne8' : H ≠ H8 := hne8.symm
        have HF := Lib.hid (And.intro hF hown2)
        clear hF hown2 hown hb2 hq hr hbq hE7 hF7 hc7
        cases q <;> cases r <;> go_wp2_with fail
        all_goals (
          go_roundw
          case rel => exact ⟨1, _, by omega, by go_num, HO2.out.step0 hne8 hHs hH8s hle8 HF.out.2 HF.out.1⟩
          case measure => simp [intOf])
      · have hc7 := HR7.out.2.1 wr HO.out.b
        have hE7 := Lib.hid (show Pl.rowN (l.getD 8 []) = Pl.rowN x8 by rw [← HL.out]; rfl)
        have hF7 := Lib.hid (show Pl.allQ l 2 = (Pl.allQ l 1 && Pl.rowK x8) by rw [← HL.out]; rfl)
        obtain ⟨q, hq⟩ : ∃ q, Pl.allQ l 1 = q := ⟨_, rfl⟩
        go_wp2_with fail
        (with_reducible refine (HNN.out.2.1 _).mono ?_)
        rintro e w2 ⟨v, rfl, ⟨A2, cc, rfl, hown⟩, hb2⟩
        have HO2 := Lib.hid (HO.out.below hHs hb2)
        have hown2 := hown.mono HO.out.s
        rw [← hE7.out] at hown2 ⊢
        obtain ⟨r, hr⟩ : ∃ r, Pl.rowK x8 = r := ⟨_, rfl⟩
        rw [hr]
        have hF := hF7.out
        rw [hq, hr] at hF
        have hbq := HO2.out.q
        rw [hq] at hbq
        have hcq : w2.cell? ⟨H, 0, none⟩ = some (.bool q) := by rw [cell_row w2 H 0 _ _ hbq]; rfl
        have hfq : w2.frozen? ⟨H, 0, none⟩ = false := frozen_of w2 H 0 _ _ hbq
        have hc8 : w2.cell? ⟨H8, 7, none⟩ = some (.slice X.A1 X.n1 X.k1) := by rw [cell_row w2 H8 7 _ _ HO2.out.z]; rfl
        have hf8 : w2.frozen? ⟨H8, 7, none⟩ = false := frozen_of w2 H8 7 _ _ HO2.out.z
        have hne8' : H ≠ H8 := hne8.symm
        have HF := Lib.hid (And.intro hF hown2)
        clear hF hown2 hown hb2 hq hr hbq hE7 hF7 hc7
        cases q <;> cases r <;> go_wp2_with fail
        all_goals (
          go_roundw
          case rel => exact ⟨2, _, by omega, by go_num, HO2.out.step1 hne8 hHs hH8s hle8 HF.out.2 HF.out.1⟩
          case measure => simp [intOf])
      · have hc7 := HR7.out.2.2.1 wr HO.out.b
        have hE7 := Lib.hid (show Pl.rowN (l.getD 9 []) = Pl.rowN x9 by rw [← HL.out]; rfl)
        have hF7 := Lib.hid (show Pl.allQ l 3 = (Pl.allQ l 2 && Pl.rowK x9) by rw [← HL.out]; rfl)
        obtain ⟨q, hq⟩ : ∃ q, Pl.allQ l 2 = q := ⟨_, rfl⟩
        go_wp2_with fail
        (with_reducible refine (HNN.out.2.2 _).mono ?_)
        rintro e w2 ⟨v, rfl, ⟨A2, cc, rfl, hown⟩, hb2⟩
        have HO2 := Lib.hid (HO.out.below hHs hb2)
        have hown2 := hown.mono HO.out.s
        rw [← hE7.out] at hown2 ⊢
        obtain ⟨r, hr⟩ : ∃ r, Pl.rowK x9 = r := ⟨_, rfl⟩
        rw [hr]
        have hF := hF7.out
        rw [hq, hr] at hF
        have hbq := HO2.out.q
        rw [hq] at hbq
        have hcq : w2.cell? ⟨H, 0, none⟩ = some (.bool q) := by rw [cell_row w2 H 0 _ _ hbq]; rfl
        have hfq : w2.frozen? ⟨H, 0, none⟩ = false := frozen_of w2 H 0 _ _ hbq
        have hc8 : w2.cell? ⟨H8, 8, none⟩ = some (.slice X.A2 X.n2 X.k2) := by rw [cell_row w2 H8 8 _ _ HO2.out.z]; rfl
        have hf8 : w2.frozen? ⟨H8, 8, none⟩ = false := frozen_of w2 H8 8 _ _ HO2.out.z
        have hne8' : H ≠ H8 := hne8.symm
        have HF := Lib.hid (And.intro hF hown2)
        clear hF hown2 hown hb2 hq hr hbq hE7 hF7 hc7
        cases q <;> cases r <;> go_wp2_with fail
        all_goals (
          go_roundw
          case rel => exact ⟨3, _, by omega, by go_num, HO2.out.step2 hne8 hHs hH8s hle8 HF.out.2 HF.out.1⟩
          case measure => simp [intOf])
      · have hc10 := HR7.out.2.2.2 wr HO.out.b
        have hC9 : Hid ((∀ j, j < 32 → (wr.cell? ⟨H8, 9 + j, none⟩).isSome = true) ∧ (∀ j, j < 32 → wr.frozen? ⟨H8, 9 + j, none⟩ = false)) := by
          refine ⟨fun j hj => ?_, fun j _ => frozen_of wr H8 _ _ _ HO.out.z⟩
          rw [cell_row wr H8 (9 + j) _ _ HO.out.z, List.getElem?_toArray]
          have hl41 : (snL (Pl.partL l 3) X).length = 41 := rfl
          simp [hl41]; omega
        have hX10 := Lib.hid HXL.out.2
        go_wp2_with fail
        go_region_law (refine step_copy32o rfl (.tmp 96) (.tmp 99) rfl H8 9 rfl x10 rfl hX10 rfl hC9 ?_)
        have hbz : Below H wr (wr.drew.setCells H8 9 (byC x10)) := (Below.refl H wr).drew.trans (Lib.below_setCells_w hle8 _ _ _)
        have hz4 := heap_setCells_mid (byC x10) 9 wr.drew (snL (Pl.partL l 3) X) HO.out.z (by rw [byC_len, HXL.out.2]; exact Nat.le_of_ble_eq_true rfl)
        have hq4 : boolAt (wr.drew.setCells H8 9 (byC x10)) H (Pl.allQ l 3) := (World.heap_setCells_other wr.drew H8 9 (byC x10) (i := H) (blk_lt HO.out.q) hne8.symm).trans HO.out.q
        have r0 := own_setCells hH8s (byC x10) 9 _ (HO.out.r0.drew)
        have r1 := own_setCells hH8s (byC x10) 9 _ (HO.out.r1.drew)
        have r2 := own_setCells hH8s (byC x10) 9 _ (HO.out.r2.drew)
        generalize hW4 : World.setCells _ _ _ _ = w4
        rw [hW4] at hbz hz4 hq4 r0 r1 r2
        have e41 : (snL (Pl.partL l 3) X).take 9 ++ byC x10 ++ (snL (Pl.partL l 3) X).drop (9 + (byC x10).length) = snL { Pl.partL l 3 with sum := x10 } X := by
          rw [byC_len, HXL.out.2, show (snL (Pl.partL l 3) X).drop (9 + 32) = [] from rfl, List.append_nil]; rfl
        rw [e41] at hz4
        have hd4 : Below H w1 w4 := HO.out.b.trans hbz
        have hok4 : SnOk w4 { Pl.partL l 3 with sum := x10 } X := ⟨sl_own r0, sl_own r1, sl_own r2, HXL.out.2⟩
        have hR4 : w4.heap[w.heap.size]? = some (.cells C 31 (0, 0)) := (hd4.block _ (by rw [← hH]; exact hfH)).trans hR1
        have hdd : Below w.heap.size w w4 := hd1.trans (hd4.mono (by rw [← hH]; exact Nat.le_of_lt hfH))
        have hmc := fun W h => mcheck_any { Pl.partL l 3 with sum := x10 } X W h (part_fit l x10 (by rw [← HL.out]; have := HME.out x1 (by simp); show x1.length ≤ _; omega))
        have hsn : Pl.allQ l 3 = true → { Pl.partL l 3 with sum := x10 } = Pl.snapOf l := fun h => by rw [← Pl.part_snap h, ← HL.out]; rfl
        obtain ⟨s3, hs3⟩ : ∃ s, { Pl.partL l 3 with sum := x10 } = s := ⟨_, rfl⟩
        have HC3 := Lib.hid (And.intro (show s3.c0 = (Pl.partL l 3).c0 by rw [← hs3]) (And.intro (show s3.c1 = (Pl.partL l 3).c1 by rw [← hs3]) (show s3.c2 = (Pl.partL l 3).c2 by rw [← hs3])))
        rw [hs3] at hz4 hok4 hmc hsn
        have hlen3 := info_sn hok4
        have hrow3 := range_row hz4
        have hone3 : (snL s3 X).toArray.all (·.oneCell') = true := all_oneCell_toArray (snL_one _ _)
        have hl3 := snL_len hok4
        obtain ⟨L3, hL3⟩ : ∃ L, snL s3 X = L := ⟨_, rfl⟩
        rw [hL3] at hz4 hlen3 hrow3 hone3 hl3
        have HS := Lib.hid (And.intro hok4 (And.intro hmc (And.intro hsn (And.intro hL3 (And.intro hlen3 (And.intro hrow3 (And.intro hone3 hl3)))))))
        have HD4 := Lib.hid (And.intro hdd (And.intro hR4 (And.intro r0 (And.intro r1 r2))))
        have HZ4 := Lib.hid hz4
        obtain ⟨q, hqq⟩ : ∃ q, Pl.allQ l 3 = q := ⟨_, rfl⟩
        rw [hqq] at hq4
        have hcq : w4.cell? ⟨H, 0, none⟩ = some (.bool q) := by rw [cell_row w4 H 0 _ _ hq4]; rfl
        have HQ := Lib.hid hqq
        clear hbz hz4 hq4 r0 r1 r2 hW4 e41 hd4 hok4 hR4 hdd hmc hsn hs3 hlen3 hrow3 hone3 hl3 hL3 hqq hc10 hC9
        cases q with
        | false =>
          have HB := Lib.hid (HNO.out (by rw [HOK.out, HQ.out]; rfl))
          have hth := HZ.out.2.2.2.1 w4 HD4.out.2.1
          go_wp2_with (first
            | (with_reducible refine wpList_build_snap HZ.out.1 rfl rfl ?_)
            | (with_reducible refine wpList_store_mid rfl 31 _ _ rfl w.heap.size 0 ZS.toArray rfl rfl hth HZ.out.2.2.1 HZ.out.2.1 ?_))
          refine bodyPost_ret (results_cell2 (cs := ZS) rfl rfl (World.rangeAt_setCells_same _ _ _ _ (by simpa using hth)) Tryd.underlying31 rfl (by have := HZ.out.2.2.1; simpa using this)) rfl ?_
          exact ⟨_, rfl, ⟨cx0, by rw [HB.out, HZ.out.1]; rfl, by rw [HB.out]; exact ok_zero _, cxNew_zero _⟩, HD4.out.1.trans (Lib.below_setCells_w (Nat.le_refl _) _ _ _)⟩
        | true =>
          go_wp2_with (with_reducible refine wpList_load_mid_g (by with_unfolding_all rfl) 31 _ rfl H8 0 rfl L3 _ HS.out.2.2.2.2.2.1 Tryd.underlying31 rfl HS.out.2.2.2.2.1 ?_)
          rw [← HS.out.2.2.2.1]
          (with_reducible refine (HS.out.2.1 _ HS.out.1).mono ?_)
          rintro e w5 ⟨v, rfl, rfl, hb5⟩
          rw [HS.out.2.2.2.1]
          have hz5 := (hb5.block _ (blk_lt HZ4.out)).trans HZ4.out
          have hrow5 := range_row hz5
          have hR5 := (hb5.block _ (blk_lt HD4.out.2.1)).trans HD4.out.2.1
          have hd5 := HD4.out.1.trans (hb5.mono HD4.out.1.size)
          have HR5 := Lib.hid (And.intro hz5 (And.intro hrow5 (And.intro hR5 (And.intro hd5 (And.intro (own_below HD4.out.2.2.1 hb5) (And.intro (own_below HD4.out.2.2.2.1 hb5) (own_below HD4.out.2.2.2.2 hb5)))))))
          clear hz5 hrow5 hR5 hd5 hb5
          obtain ⟨E, hE⟩ : ∃ E, Pl.mchk s3 = E := ⟨_, rfl⟩
          rw [hE]
          have HE := Lib.hid hE; clear hE
          by_cases hE0 : E ≠ 0
          · have hne : ((E : Int) == 0) = false := by rw [beq_eq_false_iff_ne]; omega
            have hne' : ((E : Int) != 0) = true := by unfold bne; rw [hne]; rfl
            have HB := Lib.hid (HNO.out (by rw [HOK.out, HQ.out, ← HS.out.2.2.1 HQ.out, HE.out]; simp [hE0]))
            have hth := HZ.out.2.2.2.1 w5 HR5.out.2.2.1
            go_wp2_with (first
              | (with_reducible refine wpList_build_snap HZ.out.1 rfl rfl ?_)
              | (with_reducible refine wpList_store_mid rfl 31 _ _ rfl w.heap.size 0 ZS.toArray rfl rfl hth HZ.out.2.2.1 HZ.out.2.1 ?_))
            refine bodyPost_ret (results_cell2 (cs := ZS) rfl rfl (World.rangeAt_setCells_same _ _ _ _ (by simpa using hth)) Tryd.underlying31 rfl (by have := HZ.out.2.2.1; simpa using this)) rfl ?_
            exact ⟨_, rfl, ⟨cx0, by rw [HB.out, HZ.out.1]; rfl, by rw [HB.out]; exact ok_zero _, cxNew_zero _⟩, HR5.out.2.2.2.1.trans (Lib.below_setCells_w (Nat.le_refl _) _ _ _)⟩
          obtain rfl : E = 0 := by omega
          clear hE0
          have HG := Lib.hid (show Pl.mof b = (s3, 0) by
            rw [HM.out]
            unfold Pl.mofL
            rw [HOK.out, HQ.out, ← HS.out.2.2.1 HQ.out, HE.out]; rfl)
          have hth : w5.there w.heap.size 0 L3.toArray.size := there_row HR5.out.2.2.1 (by rw [hC, List.size_toArray, HS.out.2.2.2.2.2.2.2]; exact Nat.le_refl _)
          have hinf3 : (Tryd.prog.info? 31).map (·.size) = some L3.toArray.size := by have := HS.out.2.2.2.2.1; simpa using this
          go_wp2_with (first
            | (with_reducible refine wpList_load_mid rfl 31 _ rfl H8 0 rfl L3 _ HR5.out.2.1 Tryd.underlying31 rfl HS.out.2.2.2.2.1 ?_)
            | (with_reducible refine wpList_store_mid rfl 31 _ _ rfl w.heap.size 0 L3.toArray rfl rfl hth hinf3 HS.out.2.2.2.2.2.2.1 ?_))
          refine bodyPost_ret (results_cell2 (cs := L3) rfl rfl (World.rangeAt_setCells_same _ _ _ _ (by simpa using hth)) Tryd.underlying31 rfl HS.out.2.2.2.2.1) rfl ?_
          have hwc : w.heap.size < wc.heap.size := by omega
          refine ⟨_, rfl, ⟨X, by rw [HG.out, ← HS.out.2.2.2.1]; rfl, ?_⟩, HR5.out.2.2.2.1.trans (Lib.below_setCells_w (Nat.le_refl _) _ _ _)⟩
          rw [HG.out]
          refine ⟨?_, own_new HR5.out.2.2.2.2.1 (Nat.le_of_lt hwc), own_new HR5.out.2.2.2.2.2.1 (Nat.le_of_lt hwc), own_new HR5.out.2.2.2.2.2.2 (Nat.le_of_lt hwc)⟩
          have q0 := sl_own (own_setCells hwc L3.toArray.toList 0 _ HR5.out.2.2.2.2.1)
          have q1 := sl_own (own_setCells hwc L3.toArray.toList 0 _ HR5.out.2.2.2.2.2.1)
          have q2 := sl_own (own_setCells hwc L3.toArray.toList 0 _ HR5.out.2.2.2.2.2.2)
          exact ⟨by rw [HC3.out.1]; exact q0, by rw [HC3.out.2.1]; exact q1, by rw [HC3.out.2.2]; exact q2, HS.out.1.sum⟩
end Go.Proofs.YtadoplgmeoghmaaDoor
