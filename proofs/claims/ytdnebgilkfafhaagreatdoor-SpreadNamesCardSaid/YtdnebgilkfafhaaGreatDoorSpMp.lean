/- A set of texts (a map from texts to Booleans, all of them true) that a call makes. -/
import Derived.Test.YtdnebgilkfafhaaGreatDoorSpDp
import Derived.Maps.OwnSet
import Derived.Maps.OwnOps
namespace Go.Proofs.YtdnebgilkfafhaaGreatDoor
open Go.RowKit Go.Maps
set_option linter.unusedVariables false
set_option linter.unusedSimpArgs false
theorem tx_len {α : Type} [DecidableEq α] : ∀ (a b : List α), a.Nodup → (∀ p ∈ a, p ∈ b) → a.length ≤ b.length
  | [], b, _, _ => Nat.zero_le _
  | x :: a, b, h, hs => by
    rw [List.nodup_cons] at h
    have hx := hs x (List.mem_cons_self ..)
    have h2 := tx_len a (b.erase x) h.2 (fun p hp => by
      have hp' := hs p (List.mem_cons_of_mem _ hp)
      refine (List.mem_erase_of_ne ?_).2 hp'
      rintro rfl; exact h.1 hp)
    rw [List.length_erase_of_mem hx] at h2
    have : 0 < b.length := List.length_pos_of_mem hx
    simp only [List.length_cons]; omega
theorem tx_eq {α : Type} [DecidableEq α] {a b : List α} (ha : a.Nodup) (hb : b.Nodup) (h : ∀ p, p ∈ a ↔ p ∈ b) : a.length = b.length :=
  Nat.le_antisymm (tx_len a b ha fun p hp => (h p).1 hp) (tx_len b a hb fun p hp => (h p).2 hp)
theorem rise_nodup {l : List (List UInt8)} (h : Pl.Nm.Rise l) : l.Nodup := h.imp fun hab e => by rw [e, Pl.less_irrefl] at hab; cases hab
theorem mem_take_on {l : List (List UInt8)} {k : Nat} {s nm : List UInt8} {Y : List (List UInt8)} (h : ∀ x, x ∈ Y ↔ x ∈ (l.take k).filter fun x => decide (x ≠ nm)) (ht : l.take (k + 1) = l.take k ++ [s]) (hs : s ≠ nm) : ∀ x, x ∈ (if s ∈ Y then Y else s :: Y) ↔ x ∈ (l.take (k + 1)).filter fun x => decide (x ≠ nm) := by
  intro x
  rw [ht, List.filter_append, List.mem_append, ← h x]
  have e : [s].filter (fun x => decide (x ≠ nm)) = [s] := by simp [hs]
  rw [e, List.mem_singleton]
  by_cases hm : s ∈ Y
  · rw [if_pos hm]
    exact ⟨Or.inl, fun hx => hx.elim id fun e => e ▸ hm⟩
  · rw [if_neg hm, List.mem_cons]
    exact Or.comm
theorem mem_take_skip {l : List (List UInt8)} {k : Nat} {nm : List UInt8} {Y : List (List UInt8)} (h : ∀ x, x ∈ Y ↔ x ∈ (l.take k).filter fun x => decide (x ≠ nm)) (ht : l.take (k + 1) = l.take k ++ [nm]) : ∀ x, x ∈ Y ↔ x ∈ (l.take (k + 1)).filter fun x => decide (x ≠ nm) := by
  intro x
  rw [ht, List.filter_append, List.mem_append, ← h x]
  simp
theorem law_str : Keyed Tryz.prog 9 := string_keyed Tryz.underlying9
theorem str_key {m : List UInt8} (hm : m.length ≤ 140737488355328) : keyOf Tryz.prog 9 (.string ⟨m.toArray⟩) = some (.string m) := by
  have := WideMaps.keyOf_string_mk (P := Tryz.prog) (k := 9) Tryz.underlying9 (s := ⟨m.toArray⟩) (by simp [ByteArray.size, maxLen]; omega)
  simpa using this
theorem zero_b (w : World) : (zeroValue 4).run Tryz.prog w = .ok (.bool false) w := by kernel_rfl
set_option maxRecDepth 100000 in
theorem plain_bool_inv {v : Value} {z : DataW Unit × List MemPlace} (h : plainElem (H := Unit) Tryz.prog 4 v = some z) : ∃ x, v = .bool x ∧ z = (.lit (.bool x), []) := by
  unfold plainElem at h
  rw [Tryz.underlying4] at h
  cases v <;> simp at h
  subst h
  exact ⟨_, rfl, rfl⟩
def SetT (w : World) (b : Nat) (Q : List (List UInt8)) (c : Nat) : Prop :=
  Q.Nodup ∧ ∃ (D : DataW Unit), w.ownsMap Tryz.prog 9 (plainElem Tryz.prog 4) b c D ∧ IsMap D ∧ Tidy D ∧ size D = Q.length ∧ (∀ q, has D (.string q) = decide (q ∈ Q)) ∧ ∀ q zd, D.atKey (.string q) zd = if q ∈ Q then .lit (.bool true) else zd
theorem SetT.made (w : World) : SetT (w.alloc (.map #[] 0)) w.heap.size [] 0 :=
  ⟨List.nodup_nil, .map [], World.ownsMap_made _ _ _ _, isMap_empty, tidy_empty, rfl, fun q => rfl, fun q zd => rfl⟩
theorem SetT.lt {w : World} {b c : Nat} {Q : List (List UInt8)} (h : SetT w b Q c) : b < w.heap.size := by obtain ⟨_, D, h1, _⟩ := h; exact h1.lt
theorem SetT.grown {w w' : World} {b c : Nat} {row : Option Nat} {Q : List (List UInt8)} (h : SetT w b Q c) (hg : w.grownBy w' row) (hne : some b ≠ row) : SetT w' b Q c := by
  obtain ⟨h0, D, h1, h2⟩ := h
  exact ⟨h0, D, h1.kept hg hne, h2⟩
theorem SetT.below {w w' : World} {b c : Nat} {Q : List (List UInt8)} (h : SetT w b Q c) (hb : Below w.heap.size w w') : SetT w' b Q c := h.grown (row := none) ⟨hb.os, hb.tape, hb.output, hb.size, fun i hi _ => hb.block i hi⟩ (by simp)
theorem SetT.len {w : World} {b c : Nat} {Q : List (List UInt8)} (h : SetT w b Q c) (ty : TypeId) : (Builtin.len_ #[55] ty #[.map (some b)]).run Tryz.prog w = .ok (.int .i64 Q.length) w := by
  obtain ⟨h0, D, g1, g2, g3, g4, g5⟩ := h
  rw [g1.len Tryz.underlying55 ty, g4]
set_option maxRecDepth 100000 in
theorem SetT.look {w : World} {b c : Nat} {Q : List (List UInt8)} (h : SetT w b Q c) {q : List UInt8} (hq : q.length ≤ 140737488355328) : (Instr.lookup 55 (.map (some b)) (.string ⟨q.toArray⟩) false).run Tryz.prog w = .ok (.bool (decide (q ∈ Q))) w := by
  obtain ⟨h0, D, g1, g2, g3, g4, g5, g6⟩ := h
  obtain ⟨v, ps, hrun, hv⟩ := g1.lookup law_str Tryz.underlying55 (zero_b w) (plainElem_bool Tryz.underlying4 false) (str_key hq)
  rw [hrun]
  rw [g6 q] at hv
  obtain ⟨x, rfl, hx⟩ := plain_bool_inv hv
  have h1 := (Prod.mk.inj hx).1
  by_cases hm : q ∈ Q
  · rw [if_pos hm] at h1
    injection h1 with h1
    injection h1 with h1
    rw [← h1, decide_eq_true hm]
  · rw [if_neg hm] at h1
    injection h1 with h1
    injection h1 with h1
    rw [← h1, decide_eq_false hm]
theorem SetT.put {w : World} {b c : Nat} {Q : List (List UInt8)} (h : SetT w b Q c) {q : List UInt8} (hq : q.length ≤ 140737488355328) (hn : c < 1000000000000000) :
    ∃ w', (Instr.mapUpdate 55 (.map (some b)) (.string ⟨q.toArray⟩) (.bool true)).run Tryz.prog w = .ok () w' ∧ SetT w' b (if q ∈ Q then Q else q :: Q) (c + 1) ∧ w.grownBy w' (some b) := by
  obtain ⟨h0, D, g1, g2, g3, g4, g5, g6⟩ := h
  obtain ⟨w', hrun, r1, r2⟩ := g1.update law_str Tryz.underlying55 (by unfold maxLen; omega) (str_key hq) (plainElem_bool Tryz.underlying4 true)
  have hk := law_str.key (str_key hq)
  have hne : ∀ r : List UInt8, r ≠ q → (Lit.string r) ≠ .string q := fun r hr e => by injection e with e; exact hr e
  refine ⟨w', hrun, ?_, r2⟩
  by_cases hm : q ∈ Q
  · rw [if_pos hm]
    refine ⟨h0, _, r1, g2.put _ _, g3.put hk _, ?_, fun r => ?_, fun r zd => ?_⟩
    · rw [size_put g3, g5 q, decide_eq_true hm, g4]; rfl
    · by_cases hr : r = q
      · subst hr; rw [has_put_same g2 hk, decide_eq_true hm]
      · rw [has_put_other (hne r hr), g5 r]
    · by_cases hr : r = q
      · subst hr; rw [if_pos hm]; exact atKey_put_same g2 hk _ _
      · rw [atKey_put_other (hne r hr), g6 r]
  · rw [if_neg hm]
    refine ⟨List.nodup_cons.2 ⟨hm, h0⟩, _, r1, g2.put _ _, g3.put hk _, ?_, fun r => ?_, fun r zd => ?_⟩
    · rw [size_put g3, g5 q, decide_eq_false hm, g4]; rfl
    · by_cases hr : r = q
      · subst hr; rw [has_put_same g2 hk]; simp
      · rw [has_put_other (hne r hr), g5 r]; simp [hr]
    · by_cases hr : r = q
      · subst hr; rw [if_pos (by simp)]; exact atKey_put_same g2 hk _ _
      · rw [atKey_put_other (hne r hr), g6 r]; simp [hr]
end Go.Proofs.YtdnebgilkfafhaaGreatDoor
