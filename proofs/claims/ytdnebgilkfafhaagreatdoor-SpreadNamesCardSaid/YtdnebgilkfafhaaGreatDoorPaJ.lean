/- The walk of parity's Join, of three parts that fit. -/
import Derived.Test.YtdnebgilkfafhaaGreatDoorPaC
import Derived.Test.YtdnebgilkfafhaaGreatDoorShelf
namespace Go.Proofs.YtdnebgilkfafhaaGreatDoor
open Go.RowKit
set_option linter.unusedVariables false
set_option linter.unusedSimpArgs false
attribute [local go_sem] Oper.semAt_some ba_get ba_cut ba_add
/-- The first k of three, then zeros. -/
def idL (a b c : UInt8) (k : Nat) : List UInt8 := [if 0 < k then a else 0, if 1 < k then b else 0, if 2 < k then c else 0]
def txL (A B C : List UInt8) (k : Nat) : List (List UInt8) := [if 0 < k then A else [], if 1 < k then B else [], if 2 < k then C else []]
def metL (a b c : UInt8) (k : Nat) : List Bool := (List.range 6).map fun j => decide (0 < k ∧ j = a.toNat) || decide (1 < k ∧ j = b.toNat) || decide (2 < k ∧ j = c.toNat)
def boolC (l : List Bool) : List Value := l.map Value.bool
def txC (l : List (List UInt8)) : List Value := l.map fun s => .string ⟨s.toArray⟩
def three {α : Type} (a b c : α) (k : Nat) : α := if k = 0 then a else if k = 1 then b else c
theorem idL_set (a b c : UInt8) (k : Nat) (h : k < 3) : idL a b c (k + 1) = (idL a b c k).set k (three a b c k) := by
  have h : k = 0 ∨ k = 1 ∨ k = 2 := by omega
  rcases h with rfl | rfl | rfl <;> rfl
theorem txL_set (a b c : List UInt8) (k : Nat) (h : k < 3) : txL a b c (k + 1) = (txL a b c k).set k (three a b c k) := by
  have h : k = 0 ∨ k = 1 ∨ k = 2 := by omega
  rcases h with rfl | rfl | rfl <;> rfl
theorem met_all : (Pl.ways.all fun w => [0, 1, 2].all fun k => (metL w.1 w.2.1 w.2.2 (k + 1) == (metL w.1 w.2.1 w.2.2 k).set (three w.1 w.2.1 w.2.2 k).toNat true) && ((metL w.1 w.2.1 w.2.2 k)[(three w.1 w.2.1 w.2.2 k).toNat]? == some false) && decide (1 ≤ (three w.1 w.2.1 w.2.2 k).toNat) && decide ((three w.1 w.2.1 w.2.2 k).toNat ≤ 5) && decide ([w.1, w.2.1, w.2.2].Nodup)) = true := by decide +kernel
theorem met_facts {a b c : UInt8} (hw : (a, b, c) ∈ Pl.ways) (k : Nat) (h : k < 3) :
    metL a b c (k + 1) = (metL a b c k).set (three a b c k).toNat true ∧ (metL a b c k)[(three a b c k).toNat]? = some false ∧ 1 ≤ (three a b c k).toNat ∧ (three a b c k).toNat ≤ 5 ∧ ([a, b, c] : List UInt8).Nodup := by
  have h1 := List.all_eq_true.1 met_all _ hw
  have hk : k ∈ [0, 1, 2] := by
    have h : k = 0 ∨ k = 1 ∨ k = 2 := by omega
    rcases h with rfl | rfl | rfl <;> decide
  have h2 := List.all_eq_true.1 h1 _ hk
  simp only [Bool.and_eq_true, beq_iff_eq, decide_eq_true_eq] at h2
  exact ⟨h2.1.1.1.1, h2.1.1.1.2, h2.1.1.2, h2.1.2, h2.2⟩
def thrC (a b c : UInt8) (A B C : List UInt8) : List Value := [.int .i64 (a.toNat : Int), .string ⟨A.toArray⟩, .int .i64 (b.toNat : Int), .string ⟨B.toArray⟩, .int .i64 (c.toNat : Int), .string ⟨C.toArray⟩]
/-- The three blocks of Join when k parts were met. -/
structure JBox (X M : Nat) (a b c : UInt8) (A B C : List UInt8) (k : Nat) (W : World) : Prop where
  xs : W.heap[X]? = some (.cells (b8s (idL a b c k)).toArray 135 (0, 0))
  fs : W.heap[X + 1]? = some (.cells (txC (txL A B C k)).toArray 131 (0, 0))
  ms : W.heap[M]? = some (.cells (boolC (metL a b c k)).toArray 189 (0, 0))
theorem JBox.keep {X M : Nat} {a b c : UInt8} {A B C : List UInt8} {k : Nat} {W W' : World} (h : JBox X M a b c A B C k W) (hb : Below W.heap.size W W') : JBox X M a b c A B C k W' :=
  ⟨heap_keep h.xs hb, heap_keep h.fs hb, heap_keep h.ms hb⟩
/-- The texts of lines, one behind the other. -/
def catL (L : UInt8 → List UInt8) (l : List Nat) : List UInt8 := l.flatMap fun i => L (UInt8.ofNat i)
theorem catL_snoc (L : UInt8 → List UInt8) (l : List Nat) (x : Nat) : catL L (l ++ [x]) = catL L l ++ L (UInt8.ofNat x) := by simp [catL]
theorem lineV_len (x0 x1 x2 : UInt8) (f0 f1 f2 : List UInt8) (n : Nat) (x : UInt8) : (lineV x0 x1 x2 f0 f1 f2 n x).length = n := by simp [lineV]
theorem lineV_eq {a b c : UInt8} (hw : (a, b, c) ∈ Pl.ways) (A B C : List UInt8) (n : Nat) {x : UInt8} (hx : x ∈ ([1, 2, 3, 4, 5] : List UInt8)) : lineV a b c A B C n x = Pl.lineP (a, b, c) A B C n x := by
  unfold lineV Pl.lineP
  refine List.map_congr_left fun i _ => ?_
  have g := fun y k hk => Pl.weight_eq hw hx k hk y
  simp only [] at g
  rw [g _ 0 (by decide), g _ 1 (by decide), g _ 2 (by decide)]
  rfl
theorem catL_join {a b c : UInt8} (hw : (a, b, c) ∈ Pl.ways) (A B C : List UInt8) (size : Nat) : (catL (lineV a b c A B C (Pl.rowsN size)) [1, 2, 3]).take size = Pl.joinP (a, b, c) A B C size := by
  unfold catL Pl.joinP
  simp only [List.flatMap_cons, List.flatMap_nil, List.append_nil]
  rw [lineV_eq hw A B C _ (x := UInt8.ofNat 1) (by decide), lineV_eq hw A B C _ (x := UInt8.ofNat 2) (by decide), lineV_eq hw A B C _ (x := UInt8.ofNat 3) (by decide)]
  rfl
theorem bldAt_own {X Y : World} {T e : TypeId} {B b : Nat} {p : Value} {bs : List Value} (h : Lib.BuilderAtF T e B b p bs X) (hk : ∀ (g : Nat) (C : Array Value) (t : TypeId) (fz : Nat × Nat), X.heap[g]? = some (.cells C t fz) → Y.heap[g]? = some (.cells C t fz)) : Lib.BuilderAtF T e B b p bs Y := by
  obtain ⟨hB, v, h1, ⟨h2, h3⟩, h4⟩ := h
  refine ⟨hB, v, hk _ _ _ _ h1, ⟨h2, ?_⟩, h4⟩
  rcases h3 with h3 | ⟨g, cap, cur, fz, hv, hg, hh, r⟩
  · exact .inl h3
  · exact .inr ⟨g, cap, cur, fz, hv, hg, hk _ _ _ _ hh, r⟩
theorem own_cellsK {X Y : World} {row : Option Nat} (hg : X.grownBy Y row) (hrow : ∀ r, row = some r → ∃ o : Go.Obj, X.heap[r]? = some o ∧ o.isCells = false) {g : Nat} {C : Array Value} {t : TypeId} {fz : Nat × Nat} (h0 : X.heap[g]? = some (.cells C t fz)) : Y.heap[g]? = some (.cells C t fz) := by
  refine (hg.block g (blk_lt h0) ?_).trans h0
  intro e
  obtain ⟨o, ho, hc⟩ := hrow g e.symm
  rw [h0] at ho
  injection ho with ho
  subst ho
  cases hc
theorem lbox_own {β : Type} (B : Nat) (x0 x1 x2 : UInt8) (f0 f1 f2 : List UInt8) (a b : Nat) : Own (fun (_ : β) W => LBox B x0 x1 x2 f0 f1 f2 a b W) := fun s X Y row h hg hrow =>
  ⟨own_cellsK hg hrow h.xs, own_cellsK hg hrow h.fs, own_cellsK hg hrow h.fst, own_cellsK hg hrow h.lst⟩
theorem bld_cells {B b : Nat} {l : List UInt8} {W : World} (h : Bld B b l W) : ∃ C, W.heap[b]? = some (.cells C 172 (0, 0)) := by
  rcases h with ⟨_, v, h, _⟩ | ⟨_, v, h, _⟩ <;> exact ⟨_, h⟩
theorem catL_len {L : UInt8 → List UInt8} {s : Nat} (h : ∀ x, (L x).length = s) : ∀ l : List Nat, (catL L l).length = l.length * s
  | [] => by simp [catL]
  | x :: r => by
    have := catL_len h r
    unfold catL at this ⊢
    rw [List.flatMap_cons, List.length_append, this, h, List.length_cons, Nat.succ_mul]
    omega
/-- A builder, said of cells alone. -/
theorem bld_own {β : Type} (B b : Nat) (f : β → List UInt8) : Own (fun s W => Bld B b (f s) W) := by
  intro s X Y row h hg hrow
  have hk : ∀ (g : Nat) (C : Array Value) (t : TypeId) (fz : Nat × Nat), X.heap[g]? = some (.cells C t fz) → Y.heap[g]? = some (.cells C t fz) := fun g C t fz h0 => by
    refine (hg.block g (blk_lt h0) ?_).trans h0
    intro e
    obtain ⟨o, ho, hc⟩ := hrow g e.symm
    rw [h0] at ho
    injection ho with ho
    subst ho
    cases hc
  exact h.elim (fun x => .inl (bldAt_own x hk)) (fun x => .inr (bldAt_own x hk))
set_option maxRecDepth 100000 in
set_option maxHeartbeats 4000000 in
theorem join_any (a b c : UInt8) (hw : (a, b, c) ∈ Pl.ways) (A B C : List UInt8) (size s : Nat) (hsz : size ≤ 65536) (hs : Pl.rowsN size = s) (hA : A.length = s) (hB : B.length = s) (hC : C.length = s) (P : Option Addr) (cap : Nat) (w : World)
    (hr : Rd w 2 P 3 (thrC a b c A B C)) :
    Calls Tryz.prog 82 #[.slice P 3 cap, .int .i64 (size : Int)] w (RetB (fun v _ => v = .tuple #[.string ⟨(Pl.joinP (a, b, c) A B C size).toArray⟩, .int .i64 0]) w) := by
  have hrows := fun W => rows_any size W (by omega)
  rw [hs] at hrows
  have hs3 : s ≤ 30000 := by rw [← hs]; unfold Pl.rowsN; omega
  have hss : size ≤ 3 * s := by rw [← hs]; unfold Pl.rowsN; omega
  have HR := Lib.hid (And.intro hrows (And.intro hs (And.intro hA (And.intro hB (And.intro hC (And.intro hr hw))))))
  clear hrows hs hA hB hC hr hw
  obtain ⟨X, hX⟩ : ∃ X, w.heap.size = X := ⟨_, rfl⟩
  refine (callsIn_wide (n := 4)).1 ?_
  refine callsIn_of_wp_marks Tryz.func82 rfl trivial ?_ rfl
  refine wpIn_wide.2 (Code.wp_mono NoPanic.to ?_)
  simp only [Tryz.ntmps82, List.size_toArray, List.length_cons, List.length_nil, Nat.reduceAdd, Nat.reduceSub, Array.replicate_succ, Array.replicate_zero, List.push_toArray, List.append_toArray, List.nil_append, List.cons_append]
  go_upto_region 6 with (fail)
  generalize hW : World.alloc (World.alloc (World.alloc w _) _) _ = W
  have hz : JBox X (X + 2) a b c A B C 0 W := by
    refine ⟨?_, ?_, ?_⟩
    · rw [← hW, ← hX, Below.heap_alloc _ _ _ (by simp; try omega), Below.heap_alloc _ _ _ (by simp)]; exact heap_alloc_new _ _
    · rw [← hW, ← hX, Below.heap_alloc _ _ _ (by simp; try omega)]; exact heap_alloc_2 _ _ _
    · rw [← hW, ← hX]; exact heap_alloc_3 _ _ _ _
  have hb : Below X w W := by rw [← hW, ← hX]; exact (((Below.refl _ _).alloc (Nat.le_refl _) _).alloc (by simp) _).alloc (by simp; omega) _
  obtain ⟨M, hM⟩ : ∃ M, X + 1 + 1 = M := ⟨_, rfl⟩
  rw [show X + 2 = M from hM] at hz
  have hMX : X + 1 < M := by omega
  simp only [hM]
  clear hM
  have HW := Lib.hid (And.intro hz hb)
  clear hW hz hb
  go_wp2_with fail
  go_loopw [9, 23] (fun nv i wr => ∃ (k : Nat), k ≤ 3 ∧ i = .int .i64 (k : Int) ∧ nv = .int .i64 (k : Int) ∧ Hid (JBox X M a b c A B C k wr ∧ Below X w wr)) (fun _ i _ => 3 - (intOf i).toNat)
  case atStart => exact ⟨0, by omega, rfl, rfl, HW⟩
  case round =>
    obtain ⟨k, hk, rfl, rfl, HK⟩ := hrel
    by_cases hk3 : k < 3
    · obtain ⟨q, hq⟩ : ∃ q, three a b c k = q := ⟨_, rfl⟩
      obtain ⟨t, ht⟩ : ∃ t, three A B C k = t := ⟨_, rfl⟩
      have hmf := met_facts HR.out.2.2.2.2.2.2 k hk3
      rw [hq] at hmf
      have h1i := idL_set a b c k hk3
      have h1t := txL_set A B C k hk3
      rw [hq] at h1i
      rw [ht] at h1t
      have htl : t.length = s := by
        rw [← ht]
        have h : k = 0 ∨ k = 1 ∨ k = 2 := by omega
        rcases h with rfl | rfl | rfl
        · exact HR.out.2.2.1
        · exact HR.out.2.2.2.1
        · exact HR.out.2.2.2.2.1
      obtain ⟨pb, po, rfl, hpb, hpc⟩ := (HR.out.2.2.2.2.2.1).all (by omega)
      have hbel := HK.out.2
      have hp0 : wr.cell? ⟨pb, po + k * 2, none⟩ = some (.int .i64 (q.toNat : Int)) := by
        rw [hbel.cell (p := ⟨pb, po + k * 2, none⟩) (by show pb < X; omega), hpc _ (by show _ < 6; omega), ← hq]
        have h : k = 0 ∨ k = 1 ∨ k = 2 := by omega
        rcases h with rfl | rfl | rfl <;> rfl
      have hp1 : wr.cell? ⟨pb, po + k * 2 + 1, none⟩ = some (.string ⟨t.toArray⟩) := by
        rw [hbel.cell (p := ⟨pb, po + k * 2 + 1, none⟩) (by show pb < X; omega), show po + k * 2 + 1 = po + (k * 2 + 1) by omega, hpc _ (by show _ < 6; omega), ← ht]
        have h : k = 0 ∨ k = 1 ∨ k = 2 := by omega
        rcases h with rfl | rfl | rfl <;> rfl
      have HM := Lib.hid (And.intro hmf.1 (And.intro h1i h1t))
      have hm1 := hmf.2.1
      have hq1 := hmf.2.2.1
      have hq5 := hmf.2.2.2.1
      clear hmf h1i h1t hq ht
      clear hpc hbel
      go_upto_region 10 with (fail)
      clear hp0 hp1
      obtain ⟨Q, hQ⟩ : ∃ Q, wr.heap.size = Q := ⟨_, rfl⟩
      generalize hV : World.alloc wr _ = V
      have hzQ : V.heap[Q]? = some (.cells #[.int .i64 (q.toNat : Int), .string ⟨t.toArray⟩] 71 (0, 0)) := by rw [← hV, ← hQ]; exact heap_alloc_new _ _
      have hbV : Below wr.heap.size wr V := by rw [← hV]; exact (Below.refl _ _).alloc (Nat.le_refl _) _
      have hMQ : M < Q := by have := blk_lt HK.out.1.ms; omega
      have HV := Lib.hid (And.intro hzQ (And.intro (HK.out.1.keep hbV) (HK.out.2.trans (hbV.mono (by have := HK.out.2.size; omega)))))
      simp only [hQ]
      clear hV hbV hQ HK
      have hv0 : V.cell? ⟨Q, 0, none⟩ = some (.int .i64 (q.toNat : Int)) := by rw [cell_row V Q 0 _ _ hzQ]; rfl
      have hv1 : V.cell? ⟨Q, 1, none⟩ = some (.string ⟨t.toArray⟩) := by rw [cell_row V Q 1 _ _ hzQ]; rfl
      have hvm : V.cell? ⟨M, q.toNat, none⟩ = some (.bool false) := by
        rw [cell_row V M q.toNat _ _ HV.out.2.1.ms]
        simp [boolC, hm1]
      clear hzQ hm1
      go_upto_region 14 with (fail)
      refine wp_region_held_drew (S := (fun W' => W'.cell? ⟨Q, 1, none⟩ = some (.string ⟨t.toArray⟩))) (by kernel_rfl) (by exact hv1) (fun hHeld => ?_)
      refine tk 0 (v := ?_) rfl ?_ hHeld ?_
      rotate_left
      · (intro w' hSw; (try dsimp only at hSw); go_simp; try with_reducible rfl)
      simp only [Act.put, lay9]
      refine tk 1 (v := ?_) rfl ?_ hHeld ?_
      rotate_left
      · (intro w' hSw; (try dsimp only at hSw); go_simp; try with_reducible rfl)
      simp only [Act.put, lay9]
      refine tk 2 (v := ?_) rfl ?_ hHeld ?_
      rotate_left
      · (intro w' hSw; (try dsimp only at hSw); go_simp; try with_reducible rfl)
      simp only [Act.put, lay9]
      refine tk 3 (v := ?_) rfl ?_ hHeld ?_
      rotate_left
      · (intro w' hSw; (try dsimp only at hSw); go_simp; try with_reducible rfl)
      simp only [Act.put, lay9]
      refine still_take (i := 4) (v := (.int .i64 (s : Int))) rfl (by kernel_rfl) (fun _ _ _ h => h) _ _ _ _ (by kernel_rfl) (by kernel_rfl) ⟨by rfl, _, _, fun w' hSw => ⟨?_, (HR.out.1 w')⟩⟩ hHeld ?_
      · (try dsimp only at hSw); go_simp; try with_reducible rfl
      simp only [Act.put, lay9]
      refine tk 5 (v := ?_) rfl ?_ hHeld ?_
      rotate_left
      · (intro w' hSw; (try dsimp only at hSw); go_simp; try with_reducible rfl)
      simp only [Act.put, lay9]
      refine wpAnyH_done (by kernel_rfl) ?_ _
      have hvmd : V.drew.cell? ⟨M, q.toNat, none⟩ = some (.bool false) := hvm
      have hfm : V.drew.frozen? ⟨M, q.toNat, none⟩ = false := frozen_of V M q.toNat _ _ HV.out.2.1.ms
      have hvd0 : V.drew.cell? ⟨Q, 0, none⟩ = some (.int .i64 (q.toNat : Int)) := hv0
      go_upto_region 17 with (fail)
      generalize hV6 : World.setCell _ _ _ = V6
      have hq0 : V6.cell? ⟨Q, 0, none⟩ = some (.int .i64 (q.toNat : Int)) := by rw [← hV6, World.cell?_setCell_other]; exact hvd0; simp
      have hq1' : V6.cell? ⟨Q, 1, none⟩ = some (.string ⟨t.toArray⟩) := by rw [← hV6, World.cell?_setCell_other]; exact hHeld; simp
      have hJ6 : V6.heap[X]? = some (.cells (b8s (idL a b c k)).toArray 135 (0, 0)) ∧ V6.heap[X + 1]? = some (.cells (txC (txL A B C k)).toArray 131 (0, 0)) ∧ V6.heap[M]? = some (.cells (boolC (metL a b c (k + 1))).toArray 189 (0, 0)) ∧ Below X w V6 := by
        rw [← hV6]
        refine ⟨?_, ?_, ?_, ?_⟩
        · rw [Below.heap_setCell _ _ _ _ (by show X ≠ M; omega)]; exact HV.out.2.1.xs
        · rw [Below.heap_setCell _ _ _ _ (by show X + 1 ≠ M; omega)]; exact HV.out.2.1.fs
        · rw [set_at V M q.toNat _ _ _ HV.out.2.1.ms, HM.out.1]
          simp [boolC, List.map_set]
        · exact HV.out.2.2.setCell (p := ⟨M, q.toNat, none⟩) (by show X ≤ M; omega) _
      clear hV6 hv0 hv1 hvm hHeld hvmd hfm hvd0
      have H6 := Lib.hid hJ6
      clear hJ6
      have hcx : ∃ v, V6.drew.drew.cell? ⟨X, k, none⟩ = some v := by
        show ∃ v, V6.cell? ⟨X, k, none⟩ = some v
        rw [cell_row V6 X k _ _ H6.out.1]
        have h : k = 0 ∨ k = 1 ∨ k = 2 := by omega
        rcases h with rfl | rfl | rfl <;> exact ⟨_, rfl⟩
      obtain ⟨vx, hcx⟩ := hcx
      have hfx : V6.drew.drew.frozen? ⟨X, k, none⟩ = false := frozen_of V6 X k _ _ H6.out.1
      have hct : ∃ v, V6.cell? ⟨X + 1, k, none⟩ = some v := by
        rw [cell_row V6 (X + 1) k _ _ H6.out.2.1]
        have h : k = 0 ∨ k = 1 ∨ k = 2 := by omega
        rcases h with rfl | rfl | rfl <;> exact ⟨_, rfl⟩
      obtain ⟨vt, hct⟩ := hct
      have hft : V6.frozen? ⟨X + 1, k, none⟩ = false := frozen_of V6 (X + 1) k _ _ H6.out.2.1
      have hwr : IntKind.u8.wrap (q.toNat : Int) = (q.toNat : Int) := by simp [IntKind.wrap, go_sem]; omega
      refine wp_region_held_drew (S := (fun W' => W'.cell? ⟨Q, 0, none⟩ = some (.int .i64 (q.toNat : Int)) ∧ W'.cell? ⟨Q, 1, none⟩ = some (.string ⟨t.toArray⟩))) (by kernel_rfl) (by exact ⟨hq0, hq1'⟩) (fun hHeld => ?_)
      refine tk 0 (v := ?_) rfl ?_ hHeld ?_
      rotate_left
      · (intro w' hSw; (try dsimp only at hSw); (try obtain ⟨hS0, hS1⟩ := hSw); go_simp; try with_reducible rfl)
      simp only [Act.put, lay9]
      refine tk 1 (v := ?_) rfl ?_ hHeld ?_
      rotate_left
      · (intro w' hSw; (try dsimp only at hSw); (try obtain ⟨hS0, hS1⟩ := hSw); go_simp; try with_reducible rfl)
      simp only [Act.put, lay9]
      refine tk 2 (v := ?_) rfl ?_ hHeld ?_
      rotate_left
      · (intro w' hSw; (try dsimp only at hSw); (try obtain ⟨hS0, hS1⟩ := hSw); go_simp; try with_reducible rfl)
      simp only [Act.put, lay9]
      refine tk 3 (v := ?_) rfl ?_ hHeld ?_
      rotate_left
      · (intro w' hSw; (try dsimp only at hSw); (try obtain ⟨hS0, hS1⟩ := hSw); go_simp; try with_reducible rfl)
      simp only [Act.put, lay9]
      refine tk 4 (v := ?_) rfl ?_ hHeld ?_
      rotate_left
      · (intro w' hSw; (try dsimp only at hSw); (try obtain ⟨hS0, hS1⟩ := hSw); go_simp; try with_reducible rfl)
      simp only [Act.put, lay9]
      refine tk 5 (v := ?_) rfl ?_ hHeld ?_
      rotate_left
      · (intro w' hSw; (try dsimp only at hSw); (try obtain ⟨hS0, hS1⟩ := hSw); go_simp; try with_reducible rfl)
      simp only [Act.put, lay9]
      refine tk 6 (v := ?_) rfl ?_ hHeld ?_
      rotate_left
      · (intro w' hSw; (try dsimp only at hSw); (try obtain ⟨hS0, hS1⟩ := hSw); go_simp; try with_reducible rfl)
      simp only [Act.put, lay9]
      refine tk 7 (v := ?_) rfl ?_ hHeld ?_
      rotate_left
      · (intro w' hSw; (try dsimp only at hSw); (try obtain ⟨hS0, hS1⟩ := hSw); go_simp; try with_reducible rfl)
      simp only [Act.put, lay9]
      refine wpAnyH_ready (rs := [8]) (by kernel_rfl) (by simp) (AllReadyH.cons rfl (fun K hK => ?_) AllReadyH.nil)
      go_simp
      generalize hV7 : World.setCell _ _ _ = V7
      have hJ7 : (V7.cell? ⟨Q, 0, none⟩ = some (.int .i64 (q.toNat : Int)) ∧ V7.cell? ⟨Q, 1, none⟩ = some (.string ⟨t.toArray⟩)) ∧ V7.heap[X]? = some (.cells (b8s (idL a b c (k + 1))).toArray 135 (0, 0)) ∧ V7.heap[X + 1]? = some (.cells (txC (txL A B C k)).toArray 131 (0, 0)) ∧ V7.heap[M]? = some (.cells (boolC (metL a b c (k + 1))).toArray 189 (0, 0)) ∧ Below X w V7 := by
        rw [← hV7]
        refine ⟨⟨?_, ?_⟩, ?_, ?_, ?_, ?_⟩
        · rw [World.cell?_setCell_other]
          · exact hq0
          · simp; try omega
        · rw [World.cell?_setCell_other]
          · exact hq1'
          · simp; try omega
        · refine (set_at V6 X k _ _ _ H6.out.1).trans ?_
          rw [HM.out.2.1]
          simp [b8s, List.map_set]
        · refine (Below.heap_setCell V6 _ _ _ ?_).trans H6.out.2.1
          show X + 1 ≠ X
          omega
        · refine (Below.heap_setCell V6 _ _ _ ?_).trans H6.out.2.2.1
          show M ≠ X
          omega
        · exact H6.out.2.2.2.setCell (p := ⟨X, k, none⟩) (Nat.le_refl _) _
      have H7 := Lib.hid hJ7
      clear hV7 hJ7 hcx hfx hct hft hq0 hq1' hHeld
      have hct : ∃ v, V7.cell? ⟨X + 1, k, none⟩ = some v := by
        rw [cell_row V7 (X + 1) k _ _ H7.out.2.2.1]
        have h : k = 0 ∨ k = 1 ∨ k = 2 := by omega
        rcases h with rfl | rfl | rfl <;> exact ⟨_, rfl⟩
      obtain ⟨vt, hct⟩ := hct
      have hft : V7.frozen? ⟨X + 1, k, none⟩ = false := frozen_of V7 (X + 1) k _ _ H7.out.2.2.1
      refine hK.out _ _ (by exact H7.out.1) (fun hHeld => ?_)
      clear hK K
      (try simp only [Act.put, lay9])
      refine tk 9 (v := ?_) rfl ?_ hHeld ?_
      rotate_left
      · (intro w' hSw; (try dsimp only at hSw); (try obtain ⟨hS0, hS1⟩ := hSw); go_simp; try with_reducible rfl)
      simp only [Act.put, lay9]
      refine wpAnyH_ready (rs := [10]) (by kernel_rfl) (by simp) (AllReadyH.cons rfl (fun K hK => ?_) AllReadyH.nil)
      go_simp
      generalize hV8 : World.setCell _ _ _ = V8
      have hJ8 : (V8.cell? ⟨Q, 0, none⟩ = some (.int .i64 (q.toNat : Int)) ∧ V8.cell? ⟨Q, 1, none⟩ = some (.string ⟨t.toArray⟩)) ∧ JBox X M a b c A B C (k + 1) V8 ∧ Below X w V8 := by
        rw [← hV8]
        refine ⟨⟨?_, ?_⟩, ⟨?_, ?_, ?_⟩, ?_⟩
        · rw [World.cell?_setCell_other]
          · exact H7.out.1.1
          · simp; try omega
        · rw [World.cell?_setCell_other]
          · exact H7.out.1.2
          · simp; try omega
        · refine (Below.heap_setCell V7 _ _ _ ?_).trans H7.out.2.1
          show X ≠ X + 1
          omega
        · refine (set_at V7 (X + 1) k _ _ _ H7.out.2.2.1).trans ?_
          rw [HM.out.2.2]
          simp [txC, List.map_set]
        · refine (Below.heap_setCell V7 _ _ _ ?_).trans H7.out.2.2.2.1
          show M ≠ X + 1
          omega
        · exact H7.out.2.2.2.2.setCell (p := ⟨X + 1, k, none⟩) (by show X ≤ X + 1; omega) _
      have H8 := Lib.hid hJ8
      clear hV8 hJ8 hct hft
      refine hK.out _ _ (by exact H8.out.1) (fun hHeld => ?_)
      clear hK K
      (try simp only [Act.put, lay9])
      refine wpAnyH_done (by kernel_rfl) ?_ _
      go_wp2_with fail
      go_roundw
      case rel => exact ⟨k + 1, by omega, ret_i (by omega), ret_i (by omega), Lib.hid ⟨⟨H8.out.2.1.xs, H8.out.2.1.fs, H8.out.2.1.ms⟩, H8.out.2.2.drew.drew⟩⟩
      case measure => simp only [intOf]; omega
    · obtain rfl : k = 3 := by omega
      have hx0 : wr.cell? ⟨X, 0, none⟩ = some (.int .u8 (a.toNat : Int)) := by rw [cell_row wr X 0 _ _ HK.out.1.xs]; rfl
      have hx1 : wr.cell? ⟨X, 1, none⟩ = some (.int .u8 (b.toNat : Int)) := by rw [cell_row wr X 1 _ _ HK.out.1.xs]; rfl
      have hx2 : wr.cell? ⟨X, 2, none⟩ = some (.int .u8 (c.toNat : Int)) := by rw [cell_row wr X 2 _ _ HK.out.1.xs]; rfl
      have ht0 : wr.cell? ⟨X + 1, 0, none⟩ = some (.string ⟨A.toArray⟩) := by rw [cell_row wr (X + 1) 0 _ _ HK.out.1.fs]; rfl
      have ht1 : wr.cell? ⟨X + 1, 1, none⟩ = some (.string ⟨B.toArray⟩) := by rw [cell_row wr (X + 1) 1 _ _ HK.out.1.fs]; rfl
      have ht2 : wr.cell? ⟨X + 1, 2, none⟩ = some (.string ⟨C.toArray⟩) := by rw [cell_row wr (X + 1) 2 _ _ HK.out.1.fs]; rfl
      have hlX := blk_lt HK.out.1.fs
      have hln : ∀ W, Calls Tryz.prog 72 #[.agg #[.int .u8 (a.toNat : Int), .int .u8 (b.toNat : Int), .int .u8 (c.toNat : Int)], .agg #[.string ⟨A.toArray⟩, .string ⟨B.toArray⟩, .string ⟨C.toArray⟩], .int .i64 1, .int .i64 3] W _ := fun W => lines_any a b c A B C 1 3 W
      obtain ⟨T, hT⟩ : ∃ T, wr.heap.size = T := ⟨_, rfl⟩
      go_upto_region 23 with (fail)
      generalize hV : World.alloc wr _ = V
      have hBl : Bld X T [] V := by rw [← hV, ← hT]; exact bld_new X wr (by rw [hT]; omega)
      have hbV : Below X w V := by rw [← hV]; exact HK.out.2.alloc (by rw [hT]; omega) _
      have hbr : Below wr.heap.size wr V := by rw [← hV]; exact (Below.refl _ _).alloc (Nat.le_refl _) _
      have hsV : V.heap.size = T + 1 := by rw [← hV]; simp [hT]
      have hJV := HK.out.1.keep hbr
      have hx0 : V.cell? ⟨X, 0, none⟩ = some (.int .u8 (a.toNat : Int)) := by rw [cell_row V X 0 _ _ hJV.xs]; rfl
      have hx1 : V.cell? ⟨X, 1, none⟩ = some (.int .u8 (b.toNat : Int)) := by rw [cell_row V X 1 _ _ hJV.xs]; rfl
      have hx2 : V.cell? ⟨X, 2, none⟩ = some (.int .u8 (c.toNat : Int)) := by rw [cell_row V X 2 _ _ hJV.xs]; rfl
      have ht0 : V.cell? ⟨X + 1, 0, none⟩ = some (.string ⟨A.toArray⟩) := by rw [cell_row V (X + 1) 0 _ _ hJV.fs]; rfl
      have ht1 : V.cell? ⟨X + 1, 1, none⟩ = some (.string ⟨B.toArray⟩) := by rw [cell_row V (X + 1) 1 _ _ hJV.fs]; rfl
      have ht2 : V.cell? ⟨X + 1, 2, none⟩ = some (.string ⟨C.toArray⟩) := by rw [cell_row V (X + 1) 2 _ _ hJV.fs]; rfl
      have HV := Lib.hid (And.intro hBl (And.intro hbV hsV))
      have hXT : X + 1 < T := by rw [← hT]; exact hlX
      clear hV hBl hbV hbr hJV
      go_wp2_with fail
      (with_reducible refine (hln _).mono ?_)
      clear hln
      rintro e W ⟨rfl, hLB, hbW, hsW⟩
      clear hx0 hx1 hx2 ht0 ht1 ht2
      rw [hsV] at hLB hsW
      simp only [hsV]
      go_wp2_with fail
      have hnd : ([a, b, c] : List UInt8).Nodup := (met_facts HR.out.2.2.2.2.2.2 0 (by omega)).2.2.2.2
      have hL := lines1_stops 3 (T + 1) s 1 3 (by omega) a b c A B C hnd (by omega) HR.out.2.2.1 HR.out.2.2.2.1 HR.out.2.2.2.2.1 (by omega) (by omega) W hLB
      obtain ⟨L, hLe⟩ : ∃ L, lineV a b c A B C s = L := ⟨_, rfl⟩
      have hLl : ∀ x, (L x).length = s := fun x => by rw [← hLe]; exact lineV_len _ _ _ _ _ _ _ _
      rw [hLe] at hL
      have HLE := Lib.hid (And.intro hLe hLl)
      clear hLe hLl
      refine (wpIn_wide (n := 4)).1 ?_
      refine wpIn_rangeFunc_ownF rfl (by omega) (gf := 109) (lb := #[.pointer (some ⟨T + 1 + 2, 0, none⟩), .pointer (some ⟨T + 1 + 3, 0, none⟩), .pointer (some ⟨T + 1, 0, none⟩), .pointer (some ⟨T + 1 + 1, 0, none⟩)]) rfl trivial (enters_of Tryz.func109 (by kernel_rfl) rfl) hL kp4_t (kp4_b (by omega)) (Below.refl _ _) (fun _ => rfl)
        (fun pre W' => ((Bld X T (catL L pre) W' ∧ pre.length ≤ 3) ∧ LBox (T + 1) a b c A B C 1 3 W') ∧ (Below X w W' ∧ T + 5 ≤ W'.heap.size)) (fun _ _ _ => False)
        ?own (fun _ _ _ _ _ hs _ _ => hs) ?start ?a1 ?assign ?body ?done ?stop
      case assign =>
        intro l x W K hK
        gi_wp2
        exact hK
      case own => exact OwnFrom.and (Own.from (fun q Y Z row h hg hr => ⟨⟨bld_own X T (fun pre => catL L pre) q Y Z row h.1.1 hg hr, h.1.2⟩, lbox_own (T + 1) a b c A B C 1 3 q Y Z row h.2 hg hr⟩) _) (OwnFrom.and (ownFrom_below (by omega) (by omega)) (ownFrom_size _ _))
      case start => exact ⟨⟨⟨HV.out.1.below hbW, by simp⟩, hLB⟩, HV.out.2.1.trans (hbW.mono (by omega)), by omega⟩
      case stop =>
        rintro D c pre W _ _ h _
        exact h.elim
      case body =>
        rintro l pre x W' ⟨⟨⟨hB, hlen⟩, hLB'⟩, hb', hs'⟩ hlt
        have hcl := catL_len HLE.out.2 pre
        have hps : pre.length * s ≤ 3 * s := Nat.mul_le_mul_right s hlen
        have hws := bld_writeString X T (catL L pre) (L (UInt8.ofNat x)) W' hB (by rw [hcl, HLE.out.2]; omega) (by omega)
        rw [← catL_snoc] at hws
        have hbc := bld_cells hB
        have HWS := Lib.hid hws
        clear hws hcl
        gi_wp2
        refine ⟨trivial, (CallsIn.inRound l (callsIn_wide.2 HWS.out)).mono ?_⟩
        rintro e w5 ⟨rfl, hB5, hb5, hk5⟩
        have hsz5 := hb5.size
        have hL5 : LBox (T + 1) a b c A B C 1 3 w5 := ⟨hk5 _ _ hLB'.xs (by simp) (fun c fz e => by injection e with _ e2; exact absurd e2 (by decide)), hk5 _ _ hLB'.fs (by intro e; injection e with e; omega) (fun c fz e => by injection e with _ e2; exact absurd e2 (by decide)), hk5 _ _ hLB'.fst (by intro e; injection e with e; omega) (fun c fz e => by injection e with _ e2; exact absurd e2 (by decide)), hk5 _ _ hLB'.lst (by intro e; injection e with e; omega) (fun c fz e => by injection e with _ e2; exact absurd e2 (by decide))⟩
        gi_wp2
        refine ⟨⟨hsz5, fun k o hk ho => ?_⟩, fun k k1 k2 => ?_, ⟨⟨hB5, by rw [List.length_append]; simp; omega⟩, hL5⟩, hb'.trans (hb5.mono (by have := hb'.size; omega)), by omega⟩
        · obtain ⟨C0, hC0⟩ := hbc
          refine hk5 k o hk (fun e => ?_) (fun c fz e => ?_)
          · injection e with e
            subst e
            rw [hC0] at hk
            injection hk with hk
            subst hk
            cases ho
          · subst e
            cases ho
        · have h : k = T + 1 ∨ k = T + 1 + 1 ∨ k = T + 1 + 2 ∨ k = T + 1 + 3 := by omega
          rcases h with rfl | rfl | rfl | rfl
          · exact hL5.xs.trans hLB'.xs.symm
          · exact hL5.fs.trans hLB'.fs.symm
          · exact hL5.fst.trans hLB'.fst.symm
          · exact hL5.lst.trans hLB'.lst.symm
      case done =>
        rintro E ys W' hE rfl ⟨⟨⟨hB, hlen⟩, hLB'⟩, hb', hs'⟩ hK
        obtain ⟨tx, htx⟩ : ∃ tx, catL L (List.range' 1 (3 + 1 - 1)) = tx := ⟨_, rfl⟩
        have htl : tx.length = 3 * s := by rw [← htx, catL_len HLE.out.2]; simp
        rw [htx] at hB
        have hstr := bld_string X T tx W' hB (by omega)
        have HST := Lib.hid hstr
        clear hstr
        have hbc := bld_cells hB
        go_wp2_with fail
        (with_reducible refine HST.out.mono ?_)
        rintro e w5 ⟨rfl, hB5, hb5, hk5⟩
        have hK5 : w5.heap[E]? = some (.deferred (some [])) := hk5 E _ hK (by
          intro e
          injection e with e
          obtain ⟨C0, hC0⟩ := hbc
          rw [e, hC0] at hK
          cases hK) (fun c fz e => by cases e)
        have hsz1 : (size : Int) ≤ 3 * (s : Int) := by omega
        have hsz2 : (0 : Int) ≤ (size : Int) := by omega
        have hsz3 : size ≤ tx.length := by omega
        go_wp2_with fail
        refine ⟨by simp, .inl ⟨_, _, rfl, run_takeDeferred hK5, ?_⟩⟩
        have hjn : tx.take size = Pl.joinP (a, b, c) A B C size := by
          have h := catL_join HR.out.2.2.2.2.2.2 A B C size
          rw [HR.out.2.1, HLE.out.1] at h
          rw [← htx]
          exact h
        refine ⟨_, results_tmp2 rfl _ _ _, ⟨_, rfl, ?_, by rw [hX]; exact (hb'.trans (hb5.mono (by omega))).trans (belowK_b (w := w) (n₀ := X) (by omega) w5 E _ _ (by have := hbW.size; have := HV.out.2.1.size; omega) hK5 rfl rfl)⟩⟩
        rw [← hjn]; rfl
end Go.Proofs.YtdnebgilkfafhaaGreatDoor
