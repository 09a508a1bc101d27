/- The assembler begins. The assembler's deferred closure. -/
import Derived.Test.YtmmnkoeajdeldaaGreatDoorAsXa
import Derived.Carry
import Derived.Defers
import Derived.Recover
import Derived.Laws.Pointers
namespace Go.Proofs.YtmmnkoeajdeldaaGreatDoor
open Go.RowKit Go.Maps Go.WideMaps
set_option linter.unusedVariables false
set_option linter.unusedSimpArgs false
attribute [local go_sem] ba_get ba_cut ba_add fld_k fld_s fld_n
theorem build_as (M : Nat) (w : World) : (Instr.build 64 #[(6, .map (some M))]).run Tryz.prog w = .ok (.agg #[.int .i64 0, .slice none 0 0, .slice none 0 0, .slice none 0 0, .slice none 0 0, .slice none 0 0, .map (some M), .map none]) w := by kernel_rfl
theorem AsB.low {W W' : World} {A ln : Nat} {Z : AsV} (h : AsB W A ln Z) {M : Nat} (hg : W.grownBy W' (some M)) (hM : A ≠ M) : AsB W' A ln Z := h.kept hg (by simpa using hM)
/-- The words' map, with one word more. -/
theorem ways_add {W : World} {M A c : Nat} {l : List (List UInt8 × Value)} (h : MapV W M l c) (k : List UInt8) (f : Nat) (hk : k.length ≤ 10) (hc : c ≤ 10) (hno : lkV k l = none) :
    ∃ W', (Instr.mapUpdate 62 (.map (some M)) (.string ⟨k.toArray⟩) (fnV f A)).run Tryz.prog W = .ok () W' ∧ MapV W' M (l ++ [(k, fnV f A)]) (c + 1) ∧ W.grownBy W' (some M) :=
  h.add Tryz.underlying62 (by omega) _ (by omega) hno
def BegQ (w : World) (x : Ending) (w' : World) : Prop := ∃ (A : Nat) (Z : AsV), x = .returned (.pointer (some ⟨A, 0, none⟩)) ∧ (Z.s = .slice none 0 0 ∧ Z.p = .slice none 0 0 ∧ Z.d = .slice none 0 0 ∧ Z.o = .slice none 0 0) ∧ w.heap.size ≤ A ∧ w.heap.size ≤ Z.n ∧ AsAt w' w'.heap.size A 0 Pl.St.nil Z (asY A) ∧ Below w.heap.size w w'
set_option maxRecDepth 100000 in
set_option maxHeartbeats 2000000 in
theorem begin_any (w : World) : Calls Tryz.prog 24 #[] w (BegQ w) := by
  have hmf : ∀ (fn : Fn) (first cap : Array Value) (w : World), (Instr.makeFunc fn first cap).run Tryz.prog w = .ok (.func fn first cap) w := fun _ _ _ _ => rfl
  have hm1 : ∀ W : World, (Instr.makeMap 61 none).run Tryz.prog W = .ok (.map (some W.heap.size)) (W.alloc (.map #[] 0)) := fun _ => by kernel_rfl
  have hm2 : ∀ W : World, (Instr.makeMap 62 none).run Tryz.prog W = .ok (.map (some W.heap.size)) (W.alloc (.map #[] 0)) := fun _ => by kernel_rfl
  have hbu := build_as
  obtain ⟨M, hM⟩ : ∃ M, w.heap.size = M := ⟨_, rfl⟩
  obtain ⟨W1, hW1⟩ : ∃ W1, w.alloc (.map #[] 0) = W1 := ⟨_, rfl⟩
  have hs1 : W1.heap.size = M + 1 := by rw [← hW1, ← hM]; simp
  have hn1 : MapV W1 M [] 0 := by rw [← hW1, ← hM]; exact MapV.made w
  obtain ⟨W2, hW2⟩ : ∃ W2, W1.alloc (.cells #[.int .i64 0, .slice none 0 0, .slice none 0 0, .slice none 0 0, .slice none 0 0, .slice none 0 0, .map (some M), .map none] 64) = W2 := ⟨_, rfl⟩
  have hs2 : W2.heap.size = M + 1 + 1 := by rw [← hW2]; simp [hs1]
  have hz2 : W2.heap[M + 1]? = some (.cells #[.int .i64 0, .slice none 0 0, .slice none 0 0, .slice none 0 0, .slice none 0 0, .slice none 0 0, .map (some M), .map none] 64 (0, 0)) := by rw [← hW2, ← hs1]; exact heap_alloc_new _ _
  have hb2 : Below M w W2 := by rw [← hW2, ← hW1]; exact ((Below.refl _ _).alloc (Nat.le_of_eq hM.symm) _).alloc (by simp; omega) _
  have hn2 : MapV W2 M [] 0 := by rw [← hW2]; exact hn1.grown (World.grownBy_alloc _ _ none) (by simp)
  obtain ⟨V0, hV0⟩ : ∃ V0, W2.alloc (.map #[] 0) = V0 := ⟨_, rfl⟩
  have hs0 : V0.heap.size = M + 3 := by rw [← hV0]; simp [hs2]
  have hy0 : MapV V0 (M + 1 + 1) [] 0 := by rw [← hV0, ← hs2]; exact MapV.made W2
  have hg0 : W2.grownBy V0 none := by rw [← hV0]; exact World.grownBy_alloc _ _ none
  obtain ⟨V1, hr1, hy1, hg1⟩ := ways_add (A := M + 1) hy0 Pl.wLi 57 (by decide) (by omega) rfl
  obtain ⟨V2, hr2, hy2, hg2⟩ := ways_add (A := M + 1) hy1 Pl.wLa 58 (by decide) (by omega) rfl
  obtain ⟨V3, hr3, hy3, hg3⟩ := ways_add (A := M + 1) hy2 Pl.wRaw 59 (by decide) (by omega) rfl
  obtain ⟨V4, hr4, hy4, hg4⟩ := ways_add (A := M + 1) hy3 Pl.wText 60 (by decide) (by omega) rfl
  obtain ⟨V5, hr5, hy5, hg5⟩ := ways_add (A := M + 1) hy4 Pl.wWord 61 (by decide) (by omega) rfl
  obtain ⟨V6, hr6, hy6, hg6⟩ := ways_add (A := M + 1) hy5 Pl.wRoom 62 (by decide) (by omega) rfl
  unfold fnV Pl.wLi at hr1
  unfold fnV Pl.wLa at hr2
  unfold fnV Pl.wRaw at hr3
  unfold fnV Pl.wText at hr4
  unfold fnV Pl.wWord at hr5
  unfold fnV Pl.wRoom at hr6
  have hg : W2.grownBy V6 (some (M + 1 + 1)) := (((((hg0.but _).trans hg1).trans hg2).trans hg3).trans hg4).trans hg5 |>.trans hg6
  have hz6 := (hg.block (M + 1) (by omega) (by simp)).trans hz2
  have k7 : V6.cell? ⟨M + 1, 7, none⟩ = some (.map none) := by rw [cell_row V6 (M + 1) 7 _ _ hz6]; rfl
  have f7 := frozen_of V6 (M + 1) 7 _ _ hz6
  have l6 := blk_lt hz6
  have HX := Lib.hid (And.intro hb2 (And.intro hn2 (And.intro hg (And.intro hy6 hz6))))
  have HM := Lib.hid hM
  clear hb2 hn2 hg hy0 hy1 hy2 hy3 hy4 hy5 hy6 hz6 hg0 hg1 hg2 hg3 hg4 hg5 hg6 hz2 hn1 hs0
  go_enter Tryz.func24, Tryz.ntmps24
  go_wp2_with fail
  go_ret
  have hgc := grown_cell V6 (M + 1) 7 (.map (some (M + 1 + 1)))
  have hsz : (V6.setCell ⟨M + 1, 7, none⟩ (.map (some (M + 1 + 1)))).heap.size = V6.heap.size := by simp [World.setCell]
  have hs6 : M + 3 ≤ V6.heap.size := by
    have h1 := HX.out.2.2.2.1.lt
    omega
  refine ⟨M + 1, ⟨.slice none 0 0, .slice none 0 0, .slice none 0 0, .slice none 0 0, .slice none 0 0, M, M + 1 + 1⟩, rfl, ⟨rfl, rfl, rfl, rfl⟩, by omega, Nat.le_of_eq hM, ⟨⟨?_⟩, ?_, Nat.le_refl _, ⟨rfl, .inl ⟨rfl, rfl⟩⟩, ⟨rfl, .inl ⟨rfl, rfl⟩⟩, ⟨rfl, .inl ⟨rfl, rfl⟩⟩, ?_, ?_, ?_, ?_, ?_⟩, ?_⟩
  · rw [set_at V6 (M + 1) 7 _ _ _ HX.out.2.2.2.2]
    rfl
  · rw [hsz]; omega
  · exact (HX.out.2.1.grown HX.out.2.2.1 (by simp; omega)).grown hgc (by simp)
  · rw [hsz]; show M < _; omega
  · exact HX.out.2.2.2.1.grown hgc (by simp)
  · rw [hsz]; show M + 1 + 1 < _; omega
  · show M ≠ M + 1 + 1; omega
  · rw [hM]
    have hb := HX.out.1
    have h2 : Below M W2 V6 := ⟨HX.out.2.2.1.os, HX.out.2.2.1.tape, HX.out.2.2.1.output, HX.out.2.2.1.size, fun k hk => HX.out.2.2.1.block k (by omega) (by simp; omega)⟩
    exact (hb.trans h2).setCell (p := ⟨M + 1, 7, none⟩) (by show M ≤ M + 1; omega) _
end Go.Proofs.YtmmnkoeajdeldaaGreatDoor
namespace Go.Proofs.YtmmnkoeajdeldaaGreatDoor
open Go.RowKit Go.Maps Go.WideMaps
set_option linter.unusedVariables false
set_option linter.unusedSimpArgs false
attribute [local go_sem] ba_get ba_cut ba_add fld_k fld_s fld_n
theorem wpS_gen {P : Program} {Q : Exit → Act → List Frame → World → Prop} {a : Act} {cs : List Frame} {w : World} {c : Code} (h : ∀ Q' : Exit → Act → World → Prop, (∀ e a' w', Q e a' cs w' → Q' e a' w') → c.wp P Q' a w) : c.wpS P Q a cs w :=
  wpS_of_wp (h _ fun _ _ _ h => h)
/-- Nothing panics there. -/
def NoPan (Q : Exit → Act → World → Prop) : Exit → Act → World → Prop
  | .panic _, _, _ => False
  | e, a, w => Q e a w
theorem wp_nopan {P : Program} {c : Code} {Q : Exit → Act → World → Prop} {a : Act} {w : World} (h : c.wp P (NoPan Q) a w) : c.wp P Q a w :=
  Code.wp_mono (fun e a w q => by cases e <;> first | exact q | exact q.elim) h
set_option maxRecDepth 100000 in
theorem catch_idle (a b c : Nat) (w : World) :
    CallsD Tryz.prog 23 #[.pointer (some ⟨a, 0, none⟩), .pointer (some ⟨b, 0, none⟩), .pointer (some ⟨c, 0, none⟩)] .returning w fun e u' w' => e = .returned (.tuple #[]) ∧ u' = .returning ∧ w' = w := by
  refine callsD_of_wpS Tryz.func23 rfl fun c₀ cs hu => ?_
  apply wpS_seq
  apply wpS_region
  simp [wpOpsS, go_sem, recoverD, hu, Tryz.ntmps23, Exit.thenS]
  refine wpS_gen fun Q hQ => ?_
  have HQ := Lib.hid hQ
  clear hQ
  have ht : ((#[.pointer (some ⟨a, 0, none⟩), .pointer (some ⟨b, 0, none⟩), .pointer (some ⟨c, 0, none⟩)] : Array Value) ++ ((Array.replicate 19 undef).setIfInBounds 3 .nilIface).setIfInBounds 0 .nilIface) = #[.pointer (some ⟨a, 0, none⟩), .pointer (some ⟨b, 0, none⟩), .pointer (some ⟨c, 0, none⟩), .nilIface, undef, undef, .nilIface, undef, undef, undef, undef, undef, undef, undef, undef, undef, undef, undef, undef, undef, undef, undef] := by kernel_rfl
  rw [ht]
  clear ht
  go_wp2_with fail
  refine HQ.out _ _ _ ?_
  cases c₀
  simp_all [bodyPostS, results, Tryz.results23]
/-- What Make's three results are: a program, why there is none, and at which line. -/
structure Res3 (w : World) (a b c : Nat) : Prop where
  x : ∃ v0 v1 v2 v3, w.heap[a]? = some (.cells #[v0, v1, v2, v3] 26 (0, 0))
  e : ∃ v, w.heap[b]? = some (.cells #[v] 27 (0, 0))
  l : ∃ v, w.heap[c]? = some (.cells #[v] 3 (0, 0))
  ab : a ≠ b
  ac : a ≠ c
  bc : b ≠ c
set_option maxRecDepth 100000 in
theorem catch_fault (a b c e ln : Nat) (older : List PanicEntry) (w : World) (h : Res3 w a b c) :
    CallsD Tryz.prog 23 #[.pointer (some ⟨a, 0, none⟩), .pointer (some ⟨b, 0, none⟩), .pointer (some ⟨c, 0, none⟩)] (.panicking ({ v := fltV e ln, recovered := false } :: older)) w fun x u' w' =>
      x = .returned (.tuple #[]) ∧ u' = .panicking ({ v := fltV e ln, recovered := true } :: older) ∧ w'.heap[a]? = some (.cells #[.slice none 0 0, .string ⟨#[]⟩, .int .i64 0, .int .u32 0] 26 (0, 0)) ∧ w'.heap[b]? = some (.cells #[.int .i64 (e : Int)] 27 (0, 0)) ∧ w'.heap[c]? = some (.cells #[.int .i64 (ln : Int)] 3 (0, 0)) ∧
      w'.os = w.os ∧ w'.tape = w.tape ∧ w'.output = w.output ∧ w.heap.size ≤ w'.heap.size ∧ ∀ k, k < w.heap.size → k ≠ a → k ≠ b → k ≠ c → w'.heap[k]? = w.heap[k]? := by
  refine callsD_of_wpS Tryz.func23 rfl fun c₀ cs hu => ?_
  apply wpS_seq
  apply wpS_region
  unfold fltV at hu
  simp [wpOpsS, go_sem, recoverD, hu, Tryz.ntmps23, Exit.thenS]
  refine wpS_gen fun Q hQ => ?_
  have HQ := Lib.hid hQ
  clear hQ
  have ht : ((#[.pointer (some ⟨a, 0, none⟩), .pointer (some ⟨b, 0, none⟩), .pointer (some ⟨c, 0, none⟩)] : Array Value) ++ ((Array.replicate 19 undef).setIfInBounds 3 (.iface 50 (.agg #[.int .i64 (e : Int), .int .i64 (ln : Int)]))).setIfInBounds 0 (.iface 50 (.agg #[.int .i64 (e : Int), .int .i64 (ln : Int)]))) = #[.pointer (some ⟨a, 0, none⟩), .pointer (some ⟨b, 0, none⟩), .pointer (some ⟨c, 0, none⟩), (.iface 50 (.agg #[.int .i64 (e : Int), .int .i64 (ln : Int)])), undef, undef, (.iface 50 (.agg #[.int .i64 (e : Int), .int .i64 (ln : Int)])), undef, undef, undef, undef, undef, undef, undef, undef, undef, undef, undef, undef, undef, undef, undef] := by kernel_rfl
  rw [ht]
  clear ht
  obtain ⟨v0, v1, v2, v3, hx⟩ := h.x
  obtain ⟨ve, he⟩ := h.e
  obtain ⟨vl, hl⟩ := h.l
  have x0 : w.cell? ⟨a, 0, none⟩ = some v0 := by rw [cell_row w a 0 _ _ hx]; rfl
  have x1 : w.cell? ⟨a, 1, none⟩ = some v1 := by rw [cell_row w a 1 _ _ hx]; rfl
  have x2 : w.cell? ⟨a, 2, none⟩ = some v2 := by rw [cell_row w a 2 _ _ hx]; rfl
  have x3 : w.cell? ⟨a, 3, none⟩ = some v3 := by rw [cell_row w a 3 _ _ hx]; rfl
  have y0 : w.cell? ⟨b, 0, none⟩ = some ve := by rw [cell_row w b 0 _ _ he]; rfl
  have z0 : w.cell? ⟨c, 0, none⟩ = some vl := by rw [cell_row w c 0 _ _ hl]; rfl
  have f0 := frozen_of w a 0 _ _ hx
  have f1 := frozen_of w a 1 _ _ hx
  have f2 := frozen_of w a 2 _ _ hx
  have f3 := frozen_of w a 3 _ _ hx
  have fb := frozen_of w b 0 _ _ he
  have fc := frozen_of w c 0 _ _ hl
  have la := blk_lt hx
  have lb := blk_lt he
  have lc := blk_lt hl
  have hab := h.ab
  have hac := h.ac
  have hbc := h.bc
  have hta : ∀ W : World, (Instr.typeAssert (.iface 50 (.agg #[.int .i64 (e : Int), .int .i64 (ln : Int)])) 20 50 true).run Tryz.prog W = .ok (.tuple #[.agg #[.int .i64 (e : Int), .int .i64 (ln : Int)], .bool true]) W := fun _ => by kernel_rfl
  have HU := Lib.hid (And.intro hu (And.intro hx (And.intro he hl)))
  clear hu hx he hl
  go_upto_region 5 with (fail)
  obtain ⟨W, hW⟩ : ∃ W, w.alloc (.cells #[.int .i64 (e : Int), .int .i64 (ln : Int)] 50) = W := ⟨_, rfl⟩
  obtain ⟨B, hB⟩ : ∃ B, w.heap.size = B := ⟨_, rfl⟩
  have hzB : W.heap[B]? = some (.cells #[.int .i64 (e : Int), .int .i64 (ln : Int)] 50 (0, 0)) := by rw [← hW, ← hB]; exact heap_alloc_new _ _
  have hbW : Below B w W := by rw [← hW, ← hB]; exact (Below.refl _ _).alloc (Nat.le_refl _) _
  rw [hB] at la lb lc
  rw [hW, hB]
  obtain ⟨V, hV⟩ : ∃ V, W.drew = V := ⟨_, rfl⟩
  have hbV : Below B w V := by rw [← hV]; exact hbW.drew
  have hz0 : V.heap[B]? = some (.cells #[.int .i64 (e : Int), .int .i64 (ln : Int)] 50 (0, 0)) := by rw [← hV]; exact hzB
  have hx0 := (hbV.block a la).trans HU.out.2.1
  have he0 := (hbV.block b lb).trans HU.out.2.2.1
  have hl0 := (hbV.block c lc).trans HU.out.2.2.2
  have sx : ∀ U : World, U.heap[B]? = some (.cells #[.int .i64 (e : Int), .int .i64 (ln : Int)] 50 (0, 0)) → U.cell? ⟨B, 0, none⟩ = some (.int .i64 (e : Int)) ∧ U.cell? ⟨B, 1, none⟩ = some (.int .i64 (ln : Int)) := fun U hU => ⟨by rw [cell_row U B 0 _ _ hU]; rfl, by rw [cell_row U B 1 _ _ hU]; rfl⟩
  have SX := Lib.hid sx
  have s0 := sx V hz0
  rw [← hV] at s0
  clear hzB hbW hW sx x0 x1 x2 x3 y0 z0 f0 f1 f2 f3 fb fc hta
  have HB := Lib.hid hB
  clear hB
  refine wp_nopan ?_
  refine wp_region_held_drew (S := (fun w' => w'.cell? ⟨B, 0, none⟩ = some (.int .i64 (e : Int)) ∧ w'.cell? ⟨B, 1, none⟩ = some (.int .i64 (ln : Int)))) (by kernel_rfl) (by exact s0) (fun hHeld => ?_)
  refine wpAnyH_take (i := 0) (v := ?_) rfl (by kernel_rfl) (by kernel_rfl) (by kernel_rfl) (fun _ _ _ h => h) (Or.inl ⟨by kernel_rfl, ?_⟩) hHeld ?_
  rotate_left
  · (intro w' hSw; (try dsimp only at hSw); (try obtain ⟨hS0, hS1⟩ := hSw); go_simp; try with_reducible rfl)
  simp only [Act.put, List.setIfInBounds_toArray, List.set_cons_zero, List.set_cons_succ, List.getElem_toArray, List.getElem_cons_succ, List.getElem_cons_zero]
  refine wpAnyH_take (i := 1) (v := ?_) rfl (by kernel_rfl) (by kernel_rfl) (by kernel_rfl) (fun _ _ _ h => h) (Or.inl ⟨by kernel_rfl, ?_⟩) hHeld ?_
  rotate_left
  · (intro w' hSw; (try dsimp only at hSw); (try obtain ⟨hS0, hS1⟩ := hSw); go_simp; try with_reducible rfl)
  simp only [Act.put, List.setIfInBounds_toArray, List.set_cons_zero, List.set_cons_succ, List.getElem_toArray, List.getElem_cons_succ, List.getElem_cons_zero]
  refine wpAnyH_take (i := 2) (v := ?_) rfl (by kernel_rfl) (by kernel_rfl) (by kernel_rfl) (fun _ _ _ h => h) (Or.inl ⟨by kernel_rfl, ?_⟩) hHeld ?_
  rotate_left
  · (intro w' hSw; (try dsimp only at hSw); (try obtain ⟨hS0, hS1⟩ := hSw); go_simp; try with_reducible rfl)
  simp only [Act.put, List.setIfInBounds_toArray, List.set_cons_zero, List.set_cons_succ, List.getElem_toArray, List.getElem_cons_succ, List.getElem_cons_zero]
  refine wpAnyH_take (i := 3) (v := ?_) rfl (by kernel_rfl) (by kernel_rfl) (by kernel_rfl) (fun _ _ _ h => h) (Or.inl ⟨by kernel_rfl, ?_⟩) hHeld ?_
  rotate_left
  · (intro w' hSw; (try dsimp only at hSw); (try obtain ⟨hS0, hS1⟩ := hSw); go_simp; try with_reducible rfl)
  simp only [Act.put, List.setIfInBounds_toArray, List.set_cons_zero, List.set_cons_succ, List.getElem_toArray, List.getElem_cons_succ, List.getElem_cons_zero]
  refine wpAnyH_take (i := 4) (v := ?_) rfl (by kernel_rfl) (by kernel_rfl) (by kernel_rfl) (fun _ _ _ h => h) (Or.inl ⟨by kernel_rfl, ?_⟩) hHeld ?_
  rotate_left
  · (intro w' hSw; (try dsimp only at hSw); (try obtain ⟨hS0, hS1⟩ := hSw); go_simp; try with_reducible rfl)
  simp only [Act.put, List.setIfInBounds_toArray, List.set_cons_zero, List.set_cons_succ, List.getElem_toArray, List.getElem_cons_succ, List.getElem_cons_zero]
  rw [hV]
  have x0 : V.cell? ⟨a, 0, none⟩ = some v0 := by rw [cell_row V a 0 _ _ hx0]; rfl
  have x1 : V.cell? ⟨a, 1, none⟩ = some v1 := by rw [cell_row V a 1 _ _ hx0]; rfl
  have x2 : V.cell? ⟨a, 2, none⟩ = some v2 := by rw [cell_row V a 2 _ _ hx0]; rfl
  have x3 : V.cell? ⟨a, 3, none⟩ = some v3 := by rw [cell_row V a 3 _ _ hx0]; rfl
  have f0 := frozen_of V a 0 _ _ hx0
  have f1 := frozen_of V a 1 _ _ hx0
  have f2 := frozen_of V a 2 _ _ hx0
  have f3 := frozen_of V a 3 _ _ hx0
  refine wpAnyH_ready (rs := [5]) (by kernel_rfl) (by simp) (AllReadyH.cons rfl (fun K hK => ?_) AllReadyH.nil)
  go_simp
  obtain ⟨U1, hU1⟩ : ∃ U1, (((V.setCell ⟨a, 0, none⟩ (.slice none 0 0)).setCell ⟨a, 1, none⟩ (.string ⟨#[]⟩)).setCell ⟨a, 2, none⟩ (.int .i64 0)).setCell ⟨a, 3, none⟩ (.int .u32 0) = U1 := ⟨_, rfl⟩
  have hg1 : V.grownBy U1 (some a) := by rw [← hU1]; exact (((grown_cell _ _ _ _).trans (grown_cell _ _ _ _)).trans (grown_cell _ _ _ _)).trans (grown_cell _ _ _ _)
  have hx1 : U1.heap[a]? = some (.cells #[.slice none 0 0, .string ⟨#[]⟩, .int .i64 0, .int .u32 0] 26 (0, 0)) := by
    rw [← hU1, set_at _ a 3 _ _ _ (set_at _ a 2 _ _ _ (set_at _ a 1 _ _ _ (set_at V a 0 _ _ _ hx0)))]
    rfl
  have hz1 := (hg1.block B (blk_lt hz0) (by simp; omega)).trans hz0
  have he1 := (hg1.block b (blk_lt he0) (by simp; omega)).trans he0
  have hl1 := (hg1.block c (blk_lt hl0) (by simp; omega)).trans hl0
  rw [hU1]
  clear hU1 x0 x1 x2 x3 f0 f1 f2 f3
  refine hK.out _ _ (by exact SX.out U1 hz1) (fun hHeld => ?_)
  clear hK K
  (try simp only [Act.put, List.setIfInBounds_toArray, List.set_cons_zero, List.set_cons_succ, List.getElem_toArray, List.getElem_cons_succ, List.getElem_cons_zero])
  have y0 : U1.cell? ⟨b, 0, none⟩ = some ve := by rw [cell_row U1 b 0 _ _ he1]; rfl
  have fb := frozen_of U1 b 0 _ _ he1
  refine wpAnyH_ready (rs := [6]) (by kernel_rfl) (by simp) (AllReadyH.cons rfl (fun K hK => ?_) AllReadyH.nil)
  go_simp
  obtain ⟨U2, hU2⟩ : ∃ U2, U1.setCell ⟨b, 0, none⟩ (.int .i64 (e : Int)) = U2 := ⟨_, rfl⟩
  have hg2 : U1.grownBy U2 (some b) := by rw [← hU2]; exact grown_cell _ _ _ _
  have he2 : U2.heap[b]? = some (.cells #[.int .i64 (e : Int)] 27 (0, 0)) := by rw [← hU2, set_at U1 b 0 _ _ _ he1]; rfl
  have hz2 := (hg2.block B (blk_lt hz1) (by simp; omega)).trans hz1
  have hx2 := (hg2.block a (blk_lt hx1) (by simp; omega)).trans hx1
  have hl2 := (hg2.block c (blk_lt hl1) (by simp; omega)).trans hl1
  rw [hU2]
  clear hU2 y0 fb
  refine hK.out _ _ (by exact SX.out U2 hz2) (fun hHeld => ?_)
  clear hK K
  (try simp only [Act.put, List.setIfInBounds_toArray, List.set_cons_zero, List.set_cons_succ, List.getElem_toArray, List.getElem_cons_succ, List.getElem_cons_zero])
  have z0 : U2.cell? ⟨c, 0, none⟩ = some vl := by rw [cell_row U2 c 0 _ _ hl2]; rfl
  have fc := frozen_of U2 c 0 _ _ hl2
  refine wpAnyH_ready (rs := [7]) (by kernel_rfl) (by simp) (AllReadyH.cons rfl (fun K hK => ?_) AllReadyH.nil)
  go_simp
  obtain ⟨U3, hU3⟩ : ∃ U3, U2.setCell ⟨c, 0, none⟩ (.int .i64 (ln : Int)) = U3 := ⟨_, rfl⟩
  have hg3 : U2.grownBy U3 (some c) := by rw [← hU3]; exact grown_cell _ _ _ _
  have hl3 : U3.heap[c]? = some (.cells #[.int .i64 (ln : Int)] 3 (0, 0)) := by rw [← hU3, set_at U2 c 0 _ _ _ hl2]; rfl
  have hz3 := (hg3.block B (blk_lt hz2) (by simp; omega)).trans hz2
  have hx3 := (hg3.block a (blk_lt hx2) (by simp; omega)).trans hx2
  have he3 := (hg3.block b (blk_lt he2) (by simp; omega)).trans he2
  rw [hU3]
  clear hU3 z0 fc
  refine hK.out _ _ (by exact SX.out U3 hz3) (fun hHeld => ?_)
  clear hK K
  (try simp only [Act.put, List.setIfInBounds_toArray, List.set_cons_zero, List.set_cons_succ, List.getElem_toArray, List.getElem_cons_succ, List.getElem_cons_zero])
  refine wpAnyH_done (by kernel_rfl) ?_ _
  simp only [NoPan]
  refine HQ.out _ _ _ ?_
  have hfin : U3.os = w.os ∧ U3.tape = w.tape ∧ U3.output = w.output ∧ w.heap.size ≤ U3.heap.size ∧ ∀ k, k < w.heap.size → k ≠ a → k ≠ b → k ≠ c → U3.heap[k]? = w.heap[k]? := by
    refine ⟨hg3.os.trans (hg2.os.trans (hg1.os.trans hbV.os)), hg3.tape.trans (hg2.tape.trans (hg1.tape.trans hbV.tape)), hg3.output.trans (hg2.output.trans (hg1.output.trans hbV.output)), Nat.le_trans hbV.size (Nat.le_trans hg1.size (Nat.le_trans hg2.size hg3.size)), fun k hk ka kb kc => ?_⟩
    have hkV : k < V.heap.size := Nat.lt_of_lt_of_le hk hbV.size
    have hk1 := Nat.lt_of_lt_of_le hkV hg1.size
    have hk2 := Nat.lt_of_lt_of_le hk1 hg2.size
    rw [hg3.block k hk2 (by simp; omega), hg2.block k hk1 (by simp; omega), hg1.block k hkV (by simp; omega), hbV.block k (by have := HB.out; omega)]
  have hu := HU.out.1
  have HFN := Lib.hid (And.intro hx3 (And.intro he3 (And.intro hl3 hfin)))
  clear hfin hx3 he3 hl3 hg1 hg2 hg3 hx1 hx2 he1 he2 hl1 hl2 hz1 hz2 hz3 hx0 he0 hl0 hz0 hbV s0 hHeld
  cases c₀
  simp only at hu
  subst hu
  refine ⟨rfl, _, rfl, _, results_none rfl _ _ _, rfl, rfl, HFN.out⟩
end Go.Proofs.YtmmnkoeajdeldaaGreatDoor
