/- The assembler makes a program of a text. -/
import Derived.Test.YtmmnkoeajdeldaaGreatDoorAsIn
namespace Go.Proofs.YtmmnkoeajdeldaaGreatDoor
open Go.RowKit Go.Maps Go.WideMaps
set_option linter.unusedVariables false
set_option linter.unusedSimpArgs false
attribute [local go_sem] ba_get ba_cut ba_add fld_k fld_s fld_n
theorem numT_bd (s : List UInt8) : -9223372036854775808 ≤ Pl.numT s ∧ Pl.numT s ≤ 9223372036854775807 := by
  unfold Pl.numT
  cases h : Lib.parseIntB 64 s with
  | ok v => have := Lib.parseIntB_bounds h; simp only; omega
  | range =>
    simp only [Lib.intSat]
    split <;> decide
  | «syntax» => simp only; decide
def TkB (m : Nat) (t : Pl.Tk) : Prop := t.s.length ≤ m ∧ -9223372036854775808 ≤ t.n ∧ t.n ≤ 9223372036854775807
theorem tok_bd {l : List UInt8} {t : Pl.Tk} {n : Nat} (h : Pl.tokN l = some (t, n)) : TkB l.length t := by
  cases l with
  | nil => cases h
  | cons c r =>
    simp only [Pl.tokN] at h
    split at h
    · cases h; exact ⟨by simp, of_decide_eq_true rfl, of_decide_eq_true rfl⟩
    split at h
    · cases h; exact ⟨List.length_take_le' _ _, of_decide_eq_true rfl, of_decide_eq_true rfl⟩
    split at h
    · simp only [Option.map_eq_some_iff] at h
      obtain ⟨⟨b, m⟩, h1, h2⟩ := h
      have := Pl.quo_le _ _ _ _ h1
      cases h2
      exact ⟨by simp; omega, of_decide_eq_true rfl, of_decide_eq_true rfl⟩
    · generalize (if c.toNat = 45 then 1 else 0) = sg at h
      split at h
      · cases h
      · cases h
        have := numT_bd (List.take (sg + Pl.spanN Pl.digB (List.drop sg (c :: r))) (c :: r))
        exact ⟨by simp, this.1, this.2⟩
theorem toks_bd : ∀ (f : Nat) (l : List UInt8) (a : List Pl.Tk) (m : Nat), l.length ≤ m → Pl.toksF f l = some a → ∀ t ∈ a, TkB m t
  | 0, l, a, m, hm, h, t, ht => by cases h; cases ht
  | f + 1, [], a, m, hm, h, t, ht => by cases h; cases ht
  | f + 1, c :: r, a, m, hm, h, t, ht => by
    rw [List.length_cons] at hm
    simp only [Pl.toksF] at h
    split at h
    · cases h; cases ht
    split at h
    · exact toks_bd f r a m (by omega) h t ht
    · split at h
      · cases h
      · next t0 n hn =>
        simp only [Option.map_eq_some_iff] at h
        obtain ⟨y, h1, h2⟩ := h
        subst h2
        have hb := tok_bd hn
        rw [List.length_cons] at hb
        rcases List.mem_cons.1 ht with rfl | ht
        · exact ⟨by have := hb.1; omega, hb.2⟩
        · exact toks_bd f _ y m (by simp; omega) h1 t ht
theorem toks_ok {l : List UInt8} {a : List Pl.Tk} (hl : l.length ≤ 65536) (h : Pl.toks l = some a) : TksOk a ∧ ∀ t ∈ a, t.s.length ≤ 65536 := by
  have hb := toks_bd _ _ _ 65536 hl h
  exact ⟨⟨fun t ht => ⟨by have := (hb t ht).1; omega, trivial⟩, fun t ht => (hb t ht).2⟩, fun t ht => (hb t ht).1⟩
/-- What the assembler wants of the package-level variables. -/
structure VAsm (w : World) : Prop where
  max : ∃ m : Int, w.cell? ⟨2, 0, none⟩ = some (.int .i64 m) ∧ 2 < w.heap.size
  rng : IsErr 6 w
  ops : OpTab w
theorem VAsm.below {w w' : World} (h : VAsm w) (hb : Below w.heap.size w w') : VAsm w' := by
  obtain ⟨m, h1, h2⟩ := h.max
  exact ⟨⟨m, (hb.cell (p := ⟨_, 0, none⟩) h2).trans h1, Nat.lt_of_lt_of_le h2 hb.size⟩, h.rng.below hb, h.ops.below hb⟩
/-- The program of a text; else why not, and the line. -/
def MakeQ (w : World) (E : Except (Nat × Nat) Pl.Exe) (x : Ending) (w' : World) : Prop := Below w.heap.size w w' ∧ match E with
  | .error e => x = .returned (.tuple #[xeV none 0 ⟨[], [], 0, 0⟩, .int .i64 (e.1 : Int), .int .i64 (e.2 : Int)])
  | .ok X => ∃ tA c, x = .returned (.tuple #[xeV tA c X, .int .i64 0, .int .i64 0]) ∧ w'.ownsRow w.heap.size 24 1 (.slice tA X.text.length c) X.text.length (w32s X.text)
theorem make_start {w W : World} {M : Nat} (hM : w.heap.size = M) (hW : ((w.alloc (.cells #[.slice none 0 0, .string ⟨#[]⟩, .int .i64 0, .int .u32 0] 26)).alloc (.cells #[.int .i64 0] 27)).alloc (.cells #[.int .i64 0] 3) = W) :
    W.heap[M]? = some (.cells #[.slice none 0 0, .string ⟨#[]⟩, .int .i64 0, .int .u32 0] 26 (0, 0)) ∧ W.heap[M + 1]? = some (.cells #[.int .i64 0] 27 (0, 0)) ∧ W.heap[M + 1 + 1]? = some (.cells #[.int .i64 0] 3 (0, 0)) ∧ Below M w W ∧ W.heap.size = M + 3 := by
  subst hM
  refine ⟨?_, ?_, ?_, ?_, ?_⟩
  · rw [← hW, Below.heap_alloc _ _ _ (by simp; omega), Below.heap_alloc _ _ _ (by simp)]
    exact heap_alloc_new _ _
  · rw [← hW, Below.heap_alloc _ _ _ (by simp)]
    have := heap_alloc_new (w.alloc (.cells #[.slice none 0 0, .string ⟨#[]⟩, .int .i64 0, .int .u32 0] 26)) (.cells #[.int .i64 0] 27)
    rw [show (w.alloc (.cells #[.slice none 0 0, .string ⟨#[]⟩, .int .i64 0, .int .u32 0] 26)).heap.size = w.heap.size + 1 by simp] at this
    exact this
  · have := heap_alloc_new ((w.alloc (.cells #[.slice none 0 0, .string ⟨#[]⟩, .int .i64 0, .int .u32 0] 26)).alloc (.cells #[.int .i64 0] 27)) (.cells #[.int .i64 0] 3)
    rw [show ((w.alloc (.cells #[.slice none 0 0, .string ⟨#[]⟩, .int .i64 0, .int .u32 0] 26)).alloc (.cells #[.int .i64 0] 27)).heap.size = w.heap.size + 1 + 1 by simp, hW] at this
    exact this
  · rw [← hW]
    exact (((Below.refl _ _).alloc (Nat.le_refl _) _).alloc (by simp) _).alloc (by simp; omega) _
  · rw [← hW]; simp
theorem make_res {w W W1 : World} {M : Nat} (h : W.heap[M]? = some (.cells #[.slice none 0 0, .string ⟨#[]⟩, .int .i64 0, .int .u32 0] 26 (0, 0)) ∧ W.heap[M + 1]? = some (.cells #[.int .i64 0] 27 (0, 0)) ∧ W.heap[M + 1 + 1]? = some (.cells #[.int .i64 0] 3 (0, 0)) ∧ Below M w W ∧ W.heap.size = M + 3) (hb : Below W.heap.size W W1) : Res3 W1 M (M + 1) (M + 1 + 1) :=
  ⟨⟨_, _, _, _, (hb.block M (by rw [h.2.2.2.2]; omega)).trans h.1⟩, ⟨_, (hb.block (M + 1) (by rw [h.2.2.2.2]; omega)).trans h.2.1⟩, ⟨_, (hb.block (M + 1 + 1) (by rw [h.2.2.2.2]; omega)).trans h.2.2.1⟩, by omega, by omega, by omega⟩
set_option maxHeartbeats 1000000 in
theorem results3 {tmps : Array Value} {W : World} {a b c : Nat} {v0 v1 v2 v3 ve vl : Value} (t2 : tmps[2]?.getD undef = .pointer (some ⟨a, 0, none⟩)) (t3 : tmps[3]?.getD undef = .pointer (some ⟨b, 0, none⟩)) (t4 : tmps[4]?.getD undef = .pointer (some ⟨c, 0, none⟩))
    (hx : W.heap[a]? = some (.cells #[v0, v1, v2, v3] 26 (0, 0))) (he : W.heap[b]? = some (.cells #[ve] 27 (0, 0))) (hl : W.heap[c]? = some (.cells #[vl] 3 (0, 0))) :
    (results Tryz.f9 tmps).run Tryz.prog W = .ok (.tuple #[.agg #[v0, v1, v2, v3], ve, vl]) W := by
  have x0 : W.cell? ⟨a, 0, none⟩ = some v0 := by rw [cell_row W a 0 _ _ hx]; rfl
  have x1 : W.cell? ⟨a, 1, none⟩ = some v1 := by rw [cell_row W a 1 _ _ hx]; rfl
  have x2 : W.cell? ⟨a, 2, none⟩ = some v2 := by rw [cell_row W a 2 _ _ hx]; rfl
  have x3 : W.cell? ⟨a, 3, none⟩ = some v3 := by rw [cell_row W a 3 _ _ hx]; rfl
  have y0 : W.cell? ⟨b, 0, none⟩ = some ve := by rw [cell_row W b 0 _ _ he]; rfl
  have z0 : W.cell? ⟨c, 0, none⟩ = some vl := by rw [cell_row W c 0 _ _ hl]; rfl
  simp [results, Tryz.results9, go_sem, t2, t3, t4, x0, x1, x2, x3, y0, z0]
def mkDefer (M : Nat) : Deferred := { target := Target.fn (Fn.func 23) #[.pointer (some ⟨M, 0, none⟩), .pointer (some ⟨M + 1, 0, none⟩), .pointer (some ⟨M + 1 + 1, 0, none⟩)], args := #[] }
theorem door_err {tmps : Array Value} {w W : World} {M e ln : Nat} (t2 : tmps[2]?.getD undef = .pointer (some ⟨M, 0, none⟩)) (t3 : tmps[3]?.getD undef = .pointer (some ⟨M + 1, 0, none⟩)) (t4 : tmps[4]?.getD undef = .pointer (some ⟨M + 1 + 1, 0, none⟩))
    (hres : Res3 W M (M + 1) (M + 1 + 1)) (hb : Below M w W) (hM : w.heap.size = M) : Leaves Tryz.prog Tryz.f9 tmps (MakeQ w (.error (e, ln))) [mkDefer M] (.panicking [{ v := fltV e ln, recovered := false }]) W := by
  refine leaves_cons (f := 23) (args := #[.pointer (some ⟨M, 0, none⟩), .pointer (some ⟨M + 1, 0, none⟩), .pointer (some ⟨M + 1 + 1, 0, none⟩)]) (by simp) (by simp [go_sem]) ?_
  refine (catch_fault M (M + 1) (M + 1 + 1) e ln [] _ hres).mono ?_
  rintro x u w3 ⟨rfl, rfl, k1, k2, k3, k4, k5, k6, k7, k8⟩
  have hs : settle (.panicking [{ v := fltV e ln, recovered := true }]) = .returning := rfl
  simp only [hs]
  obtain ⟨v0, v1, v2, v3, hx⟩ := hres.x
  have hlt := blk_lt hx
  refine ⟨_, results3 t2 t3 t4 k1 k2 k3, ⟨k4.trans hb.os, k5.trans hb.tape, k6.trans hb.output, Nat.le_trans hb.size k7, fun k hk => ?_⟩, rfl⟩
  rw [k8 k (by omega) (by omega) (by omega) (by omega)]
  exact hb.block k (by omega)
theorem door_ok {tmps : Array Value} {w W : World} {M : Nat} {v0 v1 v2 v3 ve vl : Value} {E : Except (Nat × Nat) Pl.Exe} (t2 : tmps[2]?.getD undef = .pointer (some ⟨M, 0, none⟩)) (t3 : tmps[3]?.getD undef = .pointer (some ⟨M + 1, 0, none⟩)) (t4 : tmps[4]?.getD undef = .pointer (some ⟨M + 1 + 1, 0, none⟩))
    (hx : W.heap[M]? = some (.cells #[v0, v1, v2, v3] 26 (0, 0))) (he : W.heap[M + 1]? = some (.cells #[ve] 27 (0, 0))) (hl : W.heap[M + 1 + 1]? = some (.cells #[vl] 3 (0, 0))) (hQ : MakeQ w E (.returned (.tuple #[.agg #[v0, v1, v2, v3], ve, vl])) W) :
    Leaves Tryz.prog Tryz.f9 tmps (MakeQ w E) [mkDefer M] .returning W := by
  refine leaves_cons (f := 23) (args := #[.pointer (some ⟨M, 0, none⟩), .pointer (some ⟨M + 1, 0, none⟩), .pointer (some ⟨M + 1 + 1, 0, none⟩)]) (by simp) (by simp [go_sem]) ?_
  refine (catch_idle M (M + 1) (M + 1 + 1) _).mono ?_
  rintro x u w3 ⟨rfl, rfl, rfl⟩
  exact ⟨_, results3 t2 t3 t4 hx he hl, hQ⟩
set_option maxRecDepth 100000 in
set_option maxHeartbeats 2000000 in
theorem make_long (t : List UInt8) (w : World) (ht : t.length ≤ 140737488355328) (hl : 65536 < t.length) : Calls Tryz.prog 9 #[.string ⟨t.toArray⟩] w (MakeQ w (.error (6, 0))) := by
  have hmf : ∀ (fn : Fn) (first cap : Array Value) (w : World), (Instr.makeFunc fn first cap).run Tryz.prog w = .ok (.func fn first cap) w := fun _ _ _ _ => rfl
  go_enter_defers Tryz.func9, Tryz.ntmps9
  go_upto_region 1 with (fail)
  obtain ⟨M, hM⟩ : ∃ M, w.heap.size = M := ⟨_, rfl⟩
  obtain ⟨W, hW⟩ : ∃ W, ((w.alloc (.cells #[.slice none 0 0, .string ⟨#[]⟩, .int .i64 0, .int .u32 0] 26)).alloc (.cells #[.int .i64 0] 27)).alloc (.cells #[.int .i64 0] 3) = W := ⟨_, rfl⟩
  have hst := make_start hM hW
  have HST := Lib.hid hst
  have HM := Lib.hid hM
  rw [hM, hW]
  clear hM hW hst
  go_wp2_with fail
  (with_reducible refine (begin_any W).mono ?_)
  rintro x W1 ⟨A, Z, rfl, ⟨hZs, -⟩, hAW, hZW, hA, hb1⟩
  go_wp2_with fail
  (with_reducible refine (throw_any A 0 _ 6 6 rfl _ hA.box).mono ?_)
  rintro x w2 ⟨rfl, rfl⟩
  exact door_err rfl rfl rfl (make_res HST.out hb1) (HST.out.2.2.2.1.trans (hb1.mono (by rw [HST.out.2.2.2.2]; omega))) HM.out
end Go.Proofs.YtmmnkoeajdeldaaGreatDoor
