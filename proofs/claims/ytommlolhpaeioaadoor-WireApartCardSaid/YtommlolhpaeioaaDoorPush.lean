/- append of one element to a row of the call's own, whatever the element's type of one cell: said so that a walk takes it in one line. -/
import Derived.Test.YtommlolhpaeioaaDoorRd
import Derived.Deep.AppendLies
import Derived.Laws.MakeOwn
import Derived.OwnWalk
import Derived.Laws.AppendOwnNone
namespace Go.Proofs.YtommlolhpaeioaaDoor
open Go.RowKit

theorem below_own {base : Nat} {e : TypeId} {k n : Nat} {v : Value} {xs : List Value} {w w' : World} (hown : w.ownsRow base e k v n xs) (hg : w.grownBy w' v.ownBlock) (hB : base ≤ w.heap.size) : Below base w w' :=
  (Below.refl _ _).grown hg hB fun g hg' => (hown.lt g hg').1

theorem own_below {base : Nat} {e : TypeId} {k n : Nat} {v : Value} {xs : List Value} {w w' : World} (h : w.ownsRow base e k v n xs) (hb : Below w.heap.size w w') : w'.ownsRow base e k v n xs :=
  h.kept (row := none) ⟨hb.os, hb.tape, hb.output, hb.size, fun i hi _ => hb.block i hi⟩ (by
    cases hv : v.ownBlock with
    | none => exact .inl rfl
    | some g => exact .inr (by simp))
theorem push_one {P : Program} {ops : Array Oper} {rest : List Oper} {o : Oper} {a : Act} {Q : Exit → Act → World → Prop} (hgd : o.guard = none) (s x : Operand) (t : TypeId)
    (ho : o.op = .call { callee := .builtin .append, args := #[s, x], argTypes := #[t, t] })
    (base : Nat) (e : TypeId) (z : Value) (bytes : Nat) (ht : P.underlying t = some (.slice e)) (hi : (P.info? e).map (fun i => (i.zero, i.size, i.bytes)) = some (some z, 1, bytes)) (hzs : z.cells.size = 1)
    (w : World) (v : Value) (n : Nat) (xs : List Value) (y : Value) (hs : a.eval s = v) (hown : w.ownsRow base e 1 v n xs) (hx : a.eval x = .slice (some ⟨w.heap.size, 0, none⟩) 1 1) (h1 : y.oneCell' = true)
    (hbytes : (n + 1) * bytes ≤ 140737488355328) (hb0 : 1 ≤ bytes) (hbase : base ≤ w.heap.size)
    (h : ∀ v' w', w'.ownsRow base e 1 v' (n + 1) (xs ++ [y]) → Below base w w' → wpList P ops Q rest (a.put o.dst v') w') : wpList P ops Q (o :: rest) a (w.alloc (.cells #[y] e)) := by
  obtain ⟨i0, hi0, hz0, hz1, hz2⟩ := info_parts hi
  refine wpList_append_own _ hgd s x t ho base e i0 z 1 bytes ht hi0 hz0 hz1 hz2 hzs (by decide) v n xs hs (hown.alloc _) ⟨w.heap.size, 0, none⟩ 1 1 [y] hx rfl (cell_one_new _ _ _) ?_ ?_ hbytes (by simp; omega) ?_
  · intro u hu; simp at hu; subst hu; exact h1
  · have : n + 1 ≤ (n + 1) * bytes := Nat.le_mul_of_pos_right _ hb0
    simp only [maxLen]; omega
  · intro v' w' h2 h3 _
    refine h v' w' h2 ?_
    exact ((Below.refl _ _).alloc hbase _).trans (below_own (hown.alloc _) h3 (by simp; omega))
/-- append of a whole slice, nil or not, to a row of the call's own. -/
theorem push_many {P : Program} {ops : Array Oper} {rest : List Oper} {o : Oper} {a : Act} {Q : Exit → Act → World → Prop} (hgd : o.guard = none) (s x : Operand) (t : TypeId)
    (ho : o.op = .call { callee := .builtin .append, args := #[s, x], argTypes := #[t, t] })
    (base : Nat) (e : TypeId) (z : Value) (k bytes : Nat) (ht : P.underlying t = some (.slice e)) (hi : (P.info? e).map (fun i => (i.zero, i.size, i.bytes)) = some (some z, k, bytes)) (hzs : z.cells.size = k) (hk : 0 < k)
    (w : World) (v : Value) (n : Nat) (xs : List Value) (A : Option Addr) (m c : Nat) (ys : List Value) (hs : a.eval s = v) (hown : w.ownsRow base e k v n xs) (hx : a.eval x = .slice A m c) (hr : Rd w k A m ys) (hnil : A = none → c = 0) (h1 : ∀ u ∈ ys, u.oneCell' = true)
    (hbytes : (n + m) * bytes ≤ 140737488355328) (hb0 : 1 ≤ bytes) (hbase : base ≤ w.heap.size)
    (h : ∀ v' w', w'.ownsRow base e k v' (n + m) (xs ++ ys) → Below base w w' → wpList P ops Q rest (a.put o.dst v') w') : wpList P ops Q (o :: rest) a w := by
  obtain ⟨i0, hi0, hz0, hz1, hz2⟩ := info_parts hi
  rcases A with _ | ad
  · have hc := hnil rfl
    subst hc
    have hm : m = 0 := by
      rcases Nat.eq_zero_or_pos m with h0 | h0
      · exact h0
      · obtain ⟨b, off, he, _⟩ := hr.2 h0; cases he
    subst hm
    obtain rfl : ys = [] := List.eq_nil_of_length_eq_zero (by have := hr.1; simpa using this)
    exact wpList_append_own_none hgd s x t ho base e i0 k ht hi0 v n xs hs hown hx (h v w (by simpa using hown) (Below.refl _ _))
  · refine wpList_append_own _ hgd s x t ho base e i0 z k bytes ht hi0 hz0 hz1 hz2 hzs hk v n xs hs hown ad m c ys hx hr.1 ?_ h1 ?_ hbytes hbase ?_
    · intro j u hu
      have hj : j < ys.length := by
        rcases Nat.lt_or_ge j ys.length with hj | hj
        · exact hj
        · rw [List.getElem?_eq_none hj] at hu; cases hu
      have hm : 0 < m := by
        rcases Nat.eq_zero_or_pos m with h0 | h0
        · subst h0; have := hr.1; omega
        · exact h0
      obtain ⟨b, off, he, _, hc⟩ := hr.2 hm
      injection he with he
      subst he
      rw [addr_add, hc j hj, hu]
    · have : n + m ≤ (n + m) * bytes := Nat.le_mul_of_pos_right _ hb0
      simp only [maxLen]; omega
    · intro v' w' h2 h3 _
      exact h v' w' h2 (below_own hown h3 hbase)
theorem info_str : (Tryd.prog.info? 9).map (fun i => (i.zero, i.size, i.bytes)) = some (some (.string ⟨#[]⟩), 1, 16) := by kernel_rfl
theorem step_pushes {P : Program} {ops : Array Oper} {o : Oper} {a : Act} {K : Act → World → Prop} {Q : Exit → Act → World → Prop} {E : Prop} (hgd : o.guard = none) (s x : Operand) (t : TypeId)
    (ho : o.op = .call { callee := .builtin .append, args := #[s, x], argTypes := #[t, t] })
    (base : Nat) (e : TypeId) (z : Value) (bytes : Nat) (ht : P.underlying t = some (.slice e)) (hi : (P.info? e).map (fun i => (i.zero, i.size, i.bytes)) = some (some z, 1, bytes)) (hzs : z.cells.size = 1)
    (w : World) (v : Value) (n : Nat) (xs ys : List Value) (H off m c : Nat) (hs : a.eval s = v) (hown : w.ownsRow base e 1 v n xs) (hx : a.eval x = .slice (some ⟨H, off, none⟩) m c) (hm : ys.length = m) (hm0 : 0 < m) (hy : ∀ j u, ys[j]? = some u → w.cell? ⟨H, off + j, none⟩ = some u) (h1 : ∀ u ∈ ys, u.oneCell' = true)
    (hbytes : (n + m) * bytes ≤ 140737488355328) (hb0 : 1 ≤ bytes) (hbase : base ≤ w.heap.size)
    (h : ∀ A c w', w'.ownsRow base e 1 (.slice A (n + m) c) (n + m) (xs ++ ys) → Below base w w' → K (a.put o.dst (.slice A (n + m) c)) w') :
    if Region.wanted o (yielded ops a.tmps) = true then Oper.wp P o a w K Q else E := by
  obtain ⟨i0, hi0, hz0, hz1, hz2⟩ := info_parts hi
  refine step_append_lies _ hgd s x t ho base e i0 z 1 bytes ht hi0 hz0 hz1 hz2 hzs (by decide) v n xs hs hown ⟨H, off, none⟩ m c ys hx (by rw [hm, Nat.mul_one]) ?_ h1 hm0 ?_ hbytes hbase _ rfl ?_
  · intro j u hu
    rw [addr_add]; exact hy j u hu
  · have : n + m ≤ (n + m) * bytes := Nat.le_mul_of_pos_right _ hb0
    simp only [maxLen]; omega
  · intro g cap w' h2 h3 _ _
    exact h _ _ w' h2 (below_own hown h3 hbase)
theorem own_form' {base : Nat} {e : TypeId} {k n : Nat} {v : Value} {xs : List Value} {w : World} (h : w.ownsRow base e k v n xs) : ∃ A c, v = .slice A n c := by
  rcases h.2 with ⟨rfl, rfl⟩ | ⟨g, cap, cur, rfl, _⟩
  · exact ⟨_, _, rfl⟩
  · exact ⟨_, _, rfl⟩
/-- append of one element, at a plain step, telling which blocks stand as they were. -/
theorem push_one_g {P : Program} {ops : Array Oper} {rest : List Oper} {o : Oper} {a : Act} {Q : Exit → Act → World → Prop} (hgd : o.guard = none) (s x : Operand) (t : TypeId)
    (ho : o.op = .call { callee := .builtin .append, args := #[s, x], argTypes := #[t, t] })
    (base : Nat) (e : TypeId) (z : Value) (bytes : Nat) (ht : P.underlying t = some (.slice e)) (hi : (P.info? e).map (fun i => (i.zero, i.size, i.bytes)) = some (some z, 1, bytes)) (hzs : z.cells.size = 1)
    (w : World) (v : Value) (n : Nat) (xs : List Value) (y : Value) (hs : a.eval s = v) (hown : w.ownsRow base e 1 v n xs) (hx : a.eval x = .slice (some ⟨w.heap.size, 0, none⟩) 1 1) (h1 : y.oneCell' = true)
    (hbytes : (n + 1) * bytes ≤ 140737488355328) (hb0 : 1 ≤ bytes) (hbase : base ≤ w.heap.size)
    (h : ∀ g c w', w'.ownsRow base e 1 (.slice (some ⟨g, 0, none⟩) (n + 1) c) (n + 1) (xs ++ [y]) → Below base w w' → (∀ G, G < w.heap.size → v.ownBlock ≠ some G → w'.heap[G]? = w.heap[G]? ∧ g ≠ G) → wpList P ops Q rest (a.put o.dst (.slice (some ⟨g, 0, none⟩) (n + 1) c)) w') : wpList P ops Q (o :: rest) a (w.alloc (.cells #[y] e)) := by
  obtain ⟨i0, hi0, hz0, hz1, hz2⟩ := info_parts hi
  refine wpList_append_lies _ hgd s x t ho base e i0 z 1 bytes ht hi0 hz0 hz1 hz2 hzs (by decide) v n xs hs (hown.alloc _) ⟨w.heap.size, 0, none⟩ 1 1 [y] hx rfl (cell_one_new _ _ _) ?_ (by decide) ?_ hbytes (by simp; omega) _ rfl ?_
  · intro u hu; simp at hu; subst hu; exact h1
  · have : n + 1 ≤ (n + 1) * bytes := Nat.le_mul_of_pos_right _ hb0
    simp only [maxLen]; omega
  · intro g c w' h2 h3 h4 _
    refine h g c w' h2 (((Below.refl _ _).alloc hbase _).trans (below_own (hown.alloc _) h3 (by simp; omega))) fun G hG hne => ⟨?_, ?_⟩
    · rw [h3.block G (by simp; omega) (fun h => hne h.symm)]
      exact Below.heap_alloc _ _ _ hG
    · rintro rfl
      rcases h4 with h4 | h4
      · exact hne h4
      · simp at h4; omega
/-- make of no element, room for c. -/
theorem make_empty {P : Program} (t e : TypeId) (z : Value) (k bytes : Nat) (ht : P.underlying t = some (.slice e)) (hi : (P.info? e).map (fun i => (i.zero, i.size, i.bytes)) = some (some z, k, bytes)) (c : Nat) (hb : bytes * c ≤ 281474976710656) (h63 : c ≤ 9223372036854775807) :
    ∃ cur : Array Value, cur.size = c * k ∧ ∀ W : World, (Instr.makeSlice t (.int .i64 0) (.int .i64 (c : Int))).run P W = .ok (.slice (some ⟨W.heap.size, 0, none⟩) 0 c) (W.alloc (.cells cur e)) := by
  obtain ⟨i0, hi0, hz0, hz1, hz2⟩ := info_parts hi
  refine ⟨madeCells z.cells (c * i0.size), by rw [hz1]; exact size_madeCells _ _, fun W => ?_⟩
  have := run_make (P := P) W t e i0 z ht hi0 hz0 .i64 .i64 0 c (Int.le_refl _) (by omega) (by rw [hz2]; have h : ((bytes * c : Nat) : Int) ≤ 281474976710656 := by omega
                                                                                               rwa [Int.natCast_mul] at h) (by omega)
  simpa using this
end Go.Proofs.YtommlolhpaeioaaDoor
