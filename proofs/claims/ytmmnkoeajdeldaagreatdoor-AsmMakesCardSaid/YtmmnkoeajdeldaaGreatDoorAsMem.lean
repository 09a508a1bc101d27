/- How the assembler lies in memory: its box, its tokens, its pieces; what a fault thrown by it is. No condition. -/
import Derived.Test.YtmmnkoeajdeldaaGreatDoorBase
import Derived.Test.YtmmnkoeajdeldaaGreatDoorAsPl
import Derived.Test.YtmmnkoeajdeldaaGreatDoorIsaW1
import Derived.Deep.QuietTactic
import Derived.BigQuiet
import Derived.Deep.Cut
import Derived.Lib.EndianMore
import Derived.Deep.MidRow
import Derived.Deep.WholeRow
import Derived.Maps.OwnSet
import Derived.Maps.OwnOps
import Derived.Maps.Views
import Derived.Maps.RangeWalk
namespace Go.Proofs.YtmmnkoeajdeldaaGreatDoor
open Go.RowKit Go.Maps Go.WideMaps
set_option linter.unusedVariables false
set_option linter.unusedSimpArgs false
theorem grown_cell (W : World) (B i : Nat) (v : Value) : W.grownBy (W.setCell ⟨B, i, none⟩ v) (some B) :=
  ⟨rfl, rfl, rfl, by simp [World.setCell], fun k _ hk => Below.heap_setCell _ _ _ _ (fun e => hk (by simp [e]))⟩
theorem rangeA {w : World} {B : Nat} {C : List Value} {t : TypeId} (h : w.heap[B]? = some (.cells C.toArray t (0, 0))) : w.rangeAt B 0 C := fun j v hv => by
  rw [cell_row w B (0 + j) C.toArray t h]; simpa using hv
theorem resultsA {fn : Func} {tmps : Array Value} {w : World} {a B : Nat} {T : TypeId} {cs : List Value} {d : TypeDesc} (hf : fn.results = #[.cell a T]) (ha : tmps[a]?.getD undef = .pointer (some ⟨B, 0, none⟩)) (hc : w.rangeAt B 0 cs) (hu : Tryz.prog.underlying T = some d) (hd : d.isRow = true) (hi : (Tryz.prog.info? T).map (·.size) = some cs.length) :
    (results fn tmps).run Tryz.prog w = .ok (.agg cs.toArray) w := by
  have h := run_loadVar_mid (P := Tryz.prog) w B 0 T cs d hc hu hd hi
  simp [results, hf, ha, asAddr, h, Sem.run_bind]
theorem thereA {w : World} {B n : Nat} {C : Array Value} {t : TypeId} (h : w.heap[B]? = some (.cells C t (0, 0))) (hn : n ≤ C.size) : w.there B 0 n := fun j hj =>
  ⟨by rw [cell_row w B (0 + j) C t h, Array.getElem?_eq_getElem (by omega)]; rfl, frozen_of w B _ C t h⟩
theorem info_tk : (Tryz.prog.info? 115).map (·.size) = some 3 := by kernel_rfl
/-- A token as a value, and as cells. -/
def tkL (t : Pl.Tk) : List Value := [.int .i64 (t.k : Int), .string ⟨t.s.toArray⟩, .int .i64 t.n]
def tkV (t : Pl.Tk) : Value := .agg (tkL t).toArray
theorem tkL_one (t : Pl.Tk) : ∀ v ∈ tkL t, v.oneCell' = true := by
  intro v hv
  simp only [tkL, List.mem_cons, List.not_mem_nil, or_false] at hv
  rcases hv with rfl | rfl | rfl <;> rfl
theorem tkL_len (t : Pl.Tk) : (tkL t).length = 3 := rfl
def tksC : List Pl.Tk → List Value
  | [] => []
  | t :: r => tkL t ++ tksC r
theorem tksC_len : ∀ l : List Pl.Tk, (tksC l).length = l.length * 3
  | [] => rfl
  | t :: r => by simp [tksC, tkL, tksC_len r]; omega
/-- The five cells of an instruction, and the eleven of a piece. -/
def insL (x : Pl.Ins) : List Value := [.int .u8 (x.op : Int), .int .u8 (x.a : Int), .int .u8 (x.b : Int), .int .u8 (x.c : Int), .int .i32 x.imm]
def pcL (p : Pl.Pc) : List Value := .int .i64 (p.line : Int) :: (insL p.x ++ [.bool p.raw, .int .u32 (p.w : Int), .bool p.named, .string ⟨p.nm.toArray⟩, .int .i64 (p.way : Int)])
def pcsC : List Pl.Pc → List Value
  | [] => []
  | t :: r => pcL t ++ pcsC r
theorem pcsC_len : ∀ l : List Pl.Pc, (pcsC l).length = l.length * 11
  | [] => rfl
  | t :: r => by simp [pcsC, pcL, insL, pcsC_len r]; omega
theorem pcsC_app : ∀ a b : List Pl.Pc, pcsC (a ++ b) = pcsC a ++ pcsC b
  | [], b => rfl
  | t :: r, b => by simp [pcsC, pcsC_app r b]
/-- What an assembler's box holds beside its line: its rest, pieces, data, rooms, starts, and where its two maps lie. -/
structure AsV where
  r : Value
  p : Value
  d : Value
  o : Value
  s : Value
  n : Nat
  y : Nat
def asL (ln : Nat) (Z : AsV) : List Value := [.int .i64 (ln : Int), Z.r, Z.p, Z.d, Z.o, Z.s, .map (some Z.n), .map (some Z.y)]
structure AsB (W : World) (A ln : Nat) (Z : AsV) : Prop where
  at_ : W.heap[A]? = some (.cells (asL ln Z).toArray 64 (0, 0))
section
variable {W W' : World} {A ln : Nat} {Z : AsV}
theorem AsB.lt (H : AsB W A ln Z) : A < W.heap.size := blk_lt H.at_
theorem AsB.kept (H : AsB W A ln Z) {r : Option Nat} (hg : W.grownBy W' r) (hr : some A ≠ r) : AsB W' A ln Z := ⟨(hg.block _ H.lt hr).trans H.at_⟩
theorem AsB.below (H : AsB W A ln Z) {B : Nat} (hb : Below B W W') (hB : A < B) : AsB W' A ln Z := ⟨(hb.block _ hB).trans H.at_⟩
theorem AsB.c0 (H : AsB W A ln Z) : W.cell? ⟨A, 0, none⟩ = some (.int .i64 (ln : Int)) := by rw [cell_row W A _ _ _ H.at_]; rfl
theorem AsB.c1 (H : AsB W A ln Z) : W.cell? ⟨A, 1, none⟩ = some Z.r := by rw [cell_row W A _ _ _ H.at_]; rfl
theorem AsB.c2 (H : AsB W A ln Z) : W.cell? ⟨A, 2, none⟩ = some Z.p := by rw [cell_row W A _ _ _ H.at_]; rfl
theorem AsB.c3 (H : AsB W A ln Z) : W.cell? ⟨A, 3, none⟩ = some Z.d := by rw [cell_row W A _ _ _ H.at_]; rfl
theorem AsB.c4 (H : AsB W A ln Z) : W.cell? ⟨A, 4, none⟩ = some Z.o := by rw [cell_row W A _ _ _ H.at_]; rfl
theorem AsB.c5 (H : AsB W A ln Z) : W.cell? ⟨A, 5, none⟩ = some Z.s := by rw [cell_row W A _ _ _ H.at_]; rfl
theorem AsB.c6 (H : AsB W A ln Z) : W.cell? ⟨A, 6, none⟩ = some (.map (some Z.n)) := by rw [cell_row W A _ _ _ H.at_]; rfl
theorem AsB.c7 (H : AsB W A ln Z) : W.cell? ⟨A, 7, none⟩ = some (.map (some Z.y)) := by rw [cell_row W A _ _ _ H.at_]; rfl
theorem AsB.froz (H : AsB W A ln Z) (i : Nat) : W.frozen? ⟨A, i, none⟩ = false := frozen_of W A i _ _ H.at_
theorem AsB.set0 (H : AsB W A ln Z) (k : Nat) : AsB (W.setCell ⟨A, 0, none⟩ (.int .i64 (k : Int))) A k Z := ⟨by rw [set_at W A _ _ _ _ H.at_]; rfl⟩
theorem AsB.set1 (H : AsB W A ln Z) (v : Value) : AsB (W.setCell ⟨A, 1, none⟩ v) A ln { Z with r := v } := ⟨by rw [set_at W A _ _ _ _ H.at_]; rfl⟩
theorem AsB.set2 (H : AsB W A ln Z) (v : Value) : AsB (W.setCell ⟨A, 2, none⟩ v) A ln { Z with p := v } := ⟨by rw [set_at W A _ _ _ _ H.at_]; rfl⟩
theorem AsB.set3 (H : AsB W A ln Z) (v : Value) : AsB (W.setCell ⟨A, 3, none⟩ v) A ln { Z with d := v } := ⟨by rw [set_at W A _ _ _ _ H.at_]; rfl⟩
theorem AsB.set4 (H : AsB W A ln Z) (v : Value) : AsB (W.setCell ⟨A, 4, none⟩ v) A ln { Z with o := v } := ⟨by rw [set_at W A _ _ _ _ H.at_]; rfl⟩
theorem AsB.set5 (H : AsB W A ln Z) (v : Value) : AsB (W.setCell ⟨A, 5, none⟩ v) A ln { Z with s := v } := ⟨by rw [set_at W A _ _ _ _ H.at_]; rfl⟩
end
/-- The tokens that weren't taken yet. -/
structure TkAt (W : World) (A M : Nat) (v : Value) (l : List Pl.Tk) : Prop where
  is_ : ∃ q n c, v = .slice q n c ∧ n = l.length ∧ n ≤ c ∧ Rd W 3 q n (tksC l) ∧ ∀ x, q = some x → x.block ≠ A ∧ x.block < M
/-- A map with texts for keys: what it holds, whatever that is. -/
def anyR (v : Value) : Option (DataW Value × List MemPlace) := some (.held v, [])
def lkV (m : List UInt8) : List (List UInt8 × Value) → Option Value
  | [] => none
  | (a, v) :: r => if a = m then some v else lkV m r
theorem lkV_app (m : List UInt8) : ∀ (l r : List (List UInt8 × Value)), lkV m (l ++ r) = match lkV m l with | some v => some v | none => lkV m r
  | [], r => rfl
  | (a, v) :: l, r => by
    simp only [List.cons_append, lkV]
    split
    · rfl
    · exact lkV_app m l r
theorem lawT : Keyed Tryz.prog 9 := string_keyed Tryz.underlying9
theorem keyT {m : List UInt8} (hm : m.length ≤ 140737488355328) : keyOf Tryz.prog 9 (.string ⟨m.toArray⟩) = some (.string m) := by
  have := WideMaps.keyOf_string_mk (P := Tryz.prog) (k := 9) Tryz.underlying9 (s := ⟨m.toArray⟩) (by simp [ByteArray.size, maxLen]; omega)
  simpa using this
def MapV (w : World) (M : Nat) (l : List (List UInt8 × Value)) (c : Nat) : Prop :=
  ∃ (D : DataW Value), w.ownsMap Tryz.prog 9 anyR M c D ∧ IsMap D ∧ ∀ m, has D (.string m) = (lkV m l).isSome ∧ ∀ zd, D.atKey (.string m) zd = match lkV m l with | some v => .held v | none => zd
section
variable {w w' : World} {M c : Nat} {l : List (List UInt8 × Value)}
theorem MapV.made (w : World) : MapV (w.alloc (.map #[] 0)) w.heap.size [] 0 := ⟨.map [], World.ownsMap_made _ _ _ _, isMap_empty, fun m => ⟨rfl, fun zd => rfl⟩⟩
theorem MapV.lt (h : MapV w M l c) : M < w.heap.size := by obtain ⟨D, h1, _⟩ := h; exact h1.lt
theorem MapV.mono (h : MapV w M l c) {c' : Nat} (hc : c ≤ c') : MapV w M l c' := by
  obtain ⟨D, h1, h2⟩ := h
  exact ⟨D, h1.mono hc, h2⟩
theorem MapV.grown (h : MapV w M l c) {row : Option Nat} (hg : w.grownBy w' row) (hne : some M ≠ row) : MapV w' M l c := by
  obtain ⟨D, h1, h2⟩ := h
  exact ⟨D, h1.kept hg hne, h2⟩
theorem MapV.at_ (h : MapV w M l c) : ∃ es clock, w.heap[M]? = some (.map es clock) := by
  obtain ⟨D, ⟨es, k, h1, _⟩, _⟩ := h
  exact ⟨es, k, h1⟩
theorem MapV.same (h : MapV w M l c) (hh : w'.heap[M]? = w.heap[M]?) : MapV w' M l c := by
  obtain ⟨D, ⟨es, k, h1, h2⟩, h3⟩ := h
  exact ⟨D, ⟨es, k, hh.trans h1, h2⟩, h3⟩
theorem MapV.look_ok (h : MapV w M l c) {t e : TypeId} (ht : Tryz.prog.underlying t = some (.map 9 e)) {z : Value} (hz : (zeroValue e).run Tryz.prog w = .ok z w) {m : List UInt8} (hm : m.length ≤ 140737488355328) :
    (Instr.lookup t (.map (some M)) (.string ⟨m.toArray⟩) true).run Tryz.prog w = .ok (.tuple #[(lkV m l).getD z, .bool (lkV m l).isSome]) w := by
  obtain ⟨D, g1, g2, g3⟩ := h
  obtain ⟨v, qs, hrun, hv⟩ := g1.look_ok lawT ht hz (zd := .held z) (zp := []) rfl (keyT hm)
  rw [(g3 m).1] at hrun
  rw [(g3 m).2] at hv
  rw [hrun]
  cases hl : lkV m l with
  | none => rw [hl] at hv; simp only [anyR, Option.some.injEq, Prod.mk.injEq, DataW.held.injEq] at hv; rw [hv.1]; rfl
  | some b => rw [hl] at hv; simp only [anyR, Option.some.injEq, Prod.mk.injEq, DataW.held.injEq] at hv; rw [hv.1]; rfl
theorem MapV.add (h : MapV w M l c) {t e : TypeId} (ht : Tryz.prog.underlying t = some (.map 9 e)) {m : List UInt8} (hm : m.length ≤ 140737488355328) (v : Value) (hn : c < 1000000000) (hno : lkV m l = none) :
    ∃ w', (Instr.mapUpdate t (.map (some M)) (.string ⟨m.toArray⟩) v).run Tryz.prog w = .ok () w' ∧ MapV w' M (l ++ [(m, v)]) (c + 1) ∧ w.grownBy w' (some M) := by
  obtain ⟨D, g1, g2, g3⟩ := h
  obtain ⟨w', hrun, r1, r2⟩ := g1.update lawT ht (by unfold maxLen; omega) (keyT hm) (val := v) (d := .held v) (ps := []) rfl
  have hk := lawT.key (keyT hm)
  refine ⟨w', hrun, ⟨_, r1, g2.put _ _, fun m' => ?_⟩, r2⟩
  rw [lkV_app]
  by_cases hmm : m' = m
  · subst hmm
    rw [hno]
    refine ⟨?_, fun zd => ?_⟩
    · rw [has_put_same g2 hk]; simp [lkV]
    · rw [atKey_put_same g2 hk]; simp [lkV]
  · have hne : (Lit.string m') ≠ .string m := by intro e; injection e with e; exact hmm e
    have hl : lkV m' [(m, v)] = none := by simp only [lkV]; rw [if_neg (fun e => hmm e.symm)]
    rw [hl]
    refine ⟨?_, fun zd => ?_⟩
    · rw [has_put_other hne, (g3 m').1]
      cases lkV m' l <;> rfl
    · rw [atKey_put_other hne, (g3 m').2]
      cases lkV m' l <;> rfl
end
/-- The names, with their places. -/
def plV (p : Nat × Nat) : Value := .agg #[.int .i64 (p.1 : Int), .int .i64 (p.2 : Int)]
def nmsV : List (List UInt8 × Nat × Nat) → List (List UInt8 × Value)
  | [] => []
  | (s, p) :: r => (s, plV p) :: nmsV r
theorem nmsV_app : ∀ a b : List (List UInt8 × Nat × Nat), nmsV (a ++ b) = nmsV a ++ nmsV b
  | [], b => rfl
  | (s, p) :: r, b => by simp [nmsV, nmsV_app r b]
theorem nmsV_look (m : List UInt8) : ∀ l : List (List UInt8 × Nat × Nat), lkV m (nmsV l) = (Pl.lookN m l).map plV
  | [] => rfl
  | (s, p) :: r => by
    simp only [nmsV, lkV, Pl.lookN]
    split
    · rfl
    · exact nmsV_look m r
/-- What is thrown. -/
def fltV (e ln : Nat) : Value := .iface 50 (.agg #[.int .i64 (e : Int), .int .i64 (ln : Int)])
def Thrown (e ln : Nat) (x : Ending) : Prop := x = .panicked [{ v := fltV e ln, recovered := false }]
set_option maxRecDepth 100000 in
theorem throw_any (A ln : Nat) (Z : AsV) (e : Nat) (v : Int) (hv : v = (e : Int)) (w : World) (H : AsB w A ln Z) :
    Calls Tryz.prog 25 #[.pointer (some ⟨A, 0, none⟩), .int .i64 v] w (fun x w' => Thrown e ln x ∧ w' = w) := by
  subst hv
  have h0 := H.c0
  go_enter Tryz.func25, Tryz.ntmps25
  go_wp2
  exact ⟨rfl, rfl, rfl⟩
/-- A token's fields. -/
theorem fld_k (a b c : Value) (W : World) : (Instr.field 115 (.agg #[a, b, c]) 0).run Tryz.prog W = .ok a W := by kernel_rfl
theorem fld_s (a b c : Value) (W : World) : (Instr.field 115 (.agg #[a, b, c]) 1).run Tryz.prog W = .ok b W := by kernel_rfl
theorem fld_n (a b c : Value) (W : World) : (Instr.field 115 (.agg #[a, b, c]) 2).run Tryz.prog W = .ok c W := by kernel_rfl
end Go.Proofs.YtmmnkoeajdeldaaGreatDoor
