/- A map of counts that the call makes: what it reads as, text by text; what a walk over two names' lists makes of it. -/
import Derived.Test.YtommlolhpaeioaaDoorMfNm
import Derived.Test.YtommlolhpaeioaaDoorMf3W
import Derived.StringKeys
import Derived.Test.YtommlolhpaeioaaDoorBase
import Derived.Test.YtommlolhpaeioaaDoorMfMem
import Derived.Maps.OwnOps
import Derived.Maps.Views
import Derived.Maps.RangeWalk
namespace Go.Proofs.YtommlolhpaeioaaDoor
open Go.RowKit Go.Maps Go.WideMaps
set_option linter.unusedVariables false
set_option linter.unusedSimpArgs false
abbrev Tx := List UInt8
/-- Each text's count; the map has no key but those listed. -/
structure Cnt (D : DataW Unit) (N : List Tx) (f : Tx → Int) : Prop where
  m : IsMap D
  c : ∀ x : Tx, D.atKey (.string x) (.lit (.int .i64 0)) = .lit (.int .i64 (f x))
  h : ∀ x : Tx, Maps.has D (.string x) = true → x ∈ N
theorem cnt_nil (N : List Tx) : Cnt (.map []) N (fun _ => 0) := ⟨isMap_empty, fun _ => rfl, fun x h => by cases h⟩
def bump (f : Tx → Int) (x : Tx) : Tx → Int := fun y => if y = x then f x + 1 else f y
theorem Cnt.put {D : DataW Unit} {N : List Tx} {f : Tx → Int} (h : Cnt D N f) {x : Tx} (hx : x ∈ N) : Cnt (D.put (.string x) (.lit (.int .i64 (f x + 1)))) N (bump f x) := by
  have hk : WideAt.IsKeyLit (.string x) := trivial
  refine ⟨(by obtain ⟨es, e⟩ := h.m; rw [e]; exact ⟨_, rfl⟩), fun y => ?_, fun y hy => ?_⟩
  · unfold bump
    by_cases e : y = x
    · subst e; rw [if_pos rfl]; exact atKey_put_same h.m hk _ _
    · rw [if_neg e, atKey_put_other (by intro e'; injection e' with e'; exact e e')]; exact h.c y
  · by_cases e : y = x
    · rw [e]; exact hx
    · rw [has_put_other (by intro e'; injection e' with e'; exact e e')] at hy; exact h.h y hy
theorem Cnt.at {D : DataW Unit} {N : List Tx} {f : Tx → Int} (h : Cnt D N f) {x : Tx} {c : Int} (hc : D.atKey (.string x) (.lit (.int .i64 0)) = .lit (.int .i64 c)) : c = f x := by
  rw [h.c x] at hc
  injection hc with hc
  injection hc with _ hc
  exact hc.symm
def one (b : Prop) [Decidable b] : Int := if b then 1 else 0
/-- Behind i of the names. -/
def f1 (N : List Tx) (i : Nat) : Tx → Int := fun x => one (x ∈ N.take i)
/-- Behind all of them, and the texts P. -/
def f2 (N P : List Tx) : Tx → Int := fun x => one (x ∈ N) + (P.count x : Int)
theorem f1_zero (N : List Tx) : f1 N 0 = fun _ => 0 := by funext x; simp [f1, one]
theorem f1_bd (N : List Tx) (i : Nat) (x : Tx) : 0 ≤ f1 N i x ∧ f1 N i x ≤ 1 := by unfold f1 one; split <;> omega
theorem f2_bd (N P : List Tx) (x : Tx) : 0 ≤ f2 N P x ∧ f2 N P x ≤ 1 + P.length := by
  have := List.count_le_length (a := x) (l := P)
  unfold f2 one; split <;> omega
theorem rise_new {N : List Tx} (h : Pl.Rise N) {i : Nat} (hi : i < N.length) : N[i] ∉ N.take i := by
  intro hm
  obtain ⟨j, hj, e⟩ := List.mem_iff_getElem.1 hm
  rw [List.length_take] at hj
  rw [List.getElem_take] at e
  have := List.pairwise_iff_getElem.1 h j i (by omega) hi (by omega)
  rw [e, Pl.less_irrefl] at this; cases this
theorem rise_next {N : List Tx} (h : Pl.Rise N) {i : Nat} (hi : i + 1 < N.length) : Pl.less N[i] N[i + 1] = true := List.pairwise_iff_getElem.1 h i (i + 1) (by omega) hi (by omega)
theorem f1_step {N : List Tx} (h : Pl.Rise N) {i : Nat} (hi : i < N.length) : bump (f1 N i) N[i] = f1 N (i + 1) ∧ f1 N i N[i] = 0 := by
  have hn := rise_new h hi
  have h0 : f1 N i N[i] = 0 := by unfold f1 one; rw [if_neg hn]
  refine ⟨?_, h0⟩
  funext y
  unfold bump
  rw [h0]
  have hmem : ∀ z, z ∈ N.take (i + 1) ↔ z ∈ N.take i ∨ z = N[i] := fun z => by
    have ht : N.take (i + 1) = N.take i ++ [N[i]] := List.take_succ_eq_append_getElem hi
    rw [ht, List.mem_append, List.mem_singleton]
  unfold f1 one
  by_cases e : y = N[i]
  · rw [if_pos e, if_pos ((hmem y).2 (.inr e))]; rfl
  · rw [if_neg e]
    by_cases hm : y ∈ N.take i
    · rw [if_pos hm, if_pos ((hmem y).2 (.inl hm))]
    · rw [if_neg hm, if_neg (fun h' => by rcases (hmem y).1 h' with h' | h'; exact hm h'; exact e h')]
theorem f1_all (N : List Tx) : f1 N N.length = f2 N [] := by funext x; simp [f1, f2]
theorem f2_step (N P : List Tx) (x : Tx) : bump (f2 N P) x = f2 N (P ++ [x]) := by
  funext y
  unfold bump f2
  by_cases e : y = x
  · subst e
    rw [if_pos rfl, List.count_append, List.count_singleton_self]; omega
  · rw [if_neg e, List.count_append, List.count_singleton, if_neg (by simpa using fun h => e h.symm)]; omega
theorem f2_pos {N P : List Tx} {x : Tx} (hx : x ∈ N) : 1 ≤ f2 N P x := by unfold f2 one; rw [if_pos hx]; omega
theorem f2_two {N P : List Tx} {x : Tx} (hx : x ∈ N) (hp : x ∈ P) : 2 ≤ f2 N P x := by
  have := List.count_pos_iff.2 hp
  unfold f2 one; rw [if_pos hx]; omega
/-- The first k rows' texts. -/
def pre (s : Pl.Snap) (k : Nat) : List Tx := (if 0 < k then s.c0 else []) ++ ((if 1 < k then s.c1 else []) ++ (if 2 < k then s.c2 else []))
theorem pre_zero (s : Pl.Snap) : pre s 0 = [] := rfl
theorem pre_step (s : Pl.Snap) {k : Nat} (hk : k < 3) : pre s (k + 1) = pre s k ++ Pl.ck s k := by
  rcases (show k = 0 ∨ k = 1 ∨ k = 2 by omega) with rfl | rfl | rfl <;> simp [pre, Pl.ck]
theorem pre_all (s : Pl.Snap) : pre s 3 = Pl.all3 s := by simp [pre, Pl.all3]
theorem pre_len (s : Pl.Snap) (k : Nat) : (pre s k).length ≤ (Pl.all3 s).length := by
  unfold pre Pl.all3
  simp only [List.length_append]
  split <;> split <;> split <;> (try simp only [List.length_nil]) <;> omega
theorem ck_mem (s : Pl.Snap) {k : Nat} (hk : k < 3) {x : Tx} (h : x ∈ Pl.ck s k) : x ∈ Pl.all3 s := by
  rcases (show k = 0 ∨ k = 1 ∨ k = 2 by omega) with rfl | rfl | rfl <;> simp [Pl.ck] at h <;> simp [Pl.all3, h]
/-- What the statement makes of a snapshot: its rows in another order. -/
def turn (s : Pl.Snap) : Pl.Snap := { s with c0 := s.c2, c1 := s.c0 ++ s.c1, c2 := [] }
theorem turn_mem (s : Pl.Snap) (x : Tx) : x ∈ Pl.all3 (turn s) ↔ x ∈ Pl.all3 s := by
  simp only [turn, Pl.all3, List.mem_append, List.not_mem_nil, or_false]
  constructor
  · rintro (h | h | h) <;> simp [h]
  · rintro ((h | h) | h) <;> simp [h]
/-- append of many, nil or none too, at a step of a drawn region. -/
theorem step_many {P : Program} {ops : Array Oper} {o : Oper} {a : Act} {K : Act → World → Prop} {Q : Exit → Act → World → Prop} {E : Prop} (hgd : o.guard = none) (s x : Operand) (t : TypeId)
    (ho : o.op = .call { callee := .builtin .append, args := #[s, x], argTypes := #[t, t] })
    (base : Nat) (e : TypeId) (z : Value) (bytes : Nat) (ht : P.underlying t = some (.slice e)) (hi : (P.info? e).map (fun i => (i.zero, i.size, i.bytes)) = some (some z, 1, bytes)) (hzs : z.cells.size = 1)
    (w : World) (v : Value) (n : Nat) (xs : List Value) (A : Option Addr) (m c : Nat) (ys : List Value) (hs : a.eval s = v) (hown : w.ownsRow base e 1 v n xs) (hx : a.eval x = .slice A m c) (hr : Rd w 1 A m ys) (hnil : A = none → c = 0) (h1 : ∀ u ∈ ys, u.oneCell' = true)
    (hbytes : (n + m) * bytes ≤ 140737488355328) (hb0 : 1 ≤ bytes) (hbase : base ≤ w.heap.size)
    (h : ∀ v' w', w'.ownsRow base e 1 v' (n + m) (xs ++ ys) → Below base w w' → K (a.put o.dst v') w') :
    if Region.wanted o (yielded ops a.tmps) = true then Oper.wp P o a w K Q else E := by
  have hw : Region.wanted o (yielded ops a.tmps) = true := by simp [Region.wanted, hgd]
  rw [if_pos hw]
  obtain ⟨i0, hi0, hz0, hz1, hz2⟩ := info_parts hi
  rcases A with _ | ad
  · have hc := hnil rfl
    subst hc
    have hm : m = 0 := by
      rcases Nat.eq_zero_or_pos m with h0 | h0
      · exact h0
      · obtain ⟨b, off, he, _⟩ := hr.2 h0; cases he
    subst hm
    obtain rfl : ys = [] := List.eq_nil_of_length_eq_zero (by have := hr.1; simpa using this)
    have hrun := run_append_owned_none (P := P) (w := w) base t o.type e i0 1 ht hi0 v n xs hown
    have hK := h v w (by simpa using hown) (Below.refl _ _)
    unfold Oper.wp
    simp [execOp, ho, resolve, invoke, builtin, hs, hx, hrun, Result.andThen]
    exact hK
  · refine wp_append_own w s x t ho base e i0 z 1 bytes ht hi0 hz0 hz1 hz2 hzs (by decide) v n xs hs hown ad m c ys hx hr.1 ?_ h1 ?_ hbytes hbase ?_
    · intro j u hu
      have hj : j < ys.length := by
        rcases Nat.lt_or_ge j ys.length with hj | hj
        · exact hj
        · rw [List.getElem?_eq_none hj] at hu; cases hu
      have hm : 0 < m := by
        rcases Nat.eq_zero_or_pos m with h0 | h0
        · subst h0; have := hr.1; omega
        · exact h0
      obtain ⟨b, off, he, _, hc⟩ := hr.2 hm
      injection he with he
      subst he
      rw [addr_add, hc j hj, hu]
    · have : n + m ≤ (n + m) * bytes := Nat.le_mul_of_pos_right _ hb0
      simp only [maxLen]; omega
    · intro v' w' h2 h3 _
      exact h v' w' h2 (below_own hown h3 hbase)
theorem key_tx {P : Program} {k : TypeId} (hk : P.underlying k = some .string) {x : Tx} (hx : x.length ≤ 140737488355328) : keyOf P k (.string ⟨x.toArray⟩) = some (.string x) := by
  have := keyOf_string_mk (P := P) (k := k) hk (s := ⟨x.toArray⟩) (by simp [ByteArray.size, maxLen]; omega)
  simpa using this
end Go.Proofs.YtommlolhpaeioaaDoor
