/- The walks of the document's Great and Same of snapshots. -/
import Derived.Test.YtadoplgmeoghmaaDoorMf3W
import Derived.Test.YtadoplgmeoghmaaDoorHashW
import Derived.Deep.QuietTactic
import Derived.BigQuiet
namespace Go.Proofs.YtadoplgmeoghmaaDoor
open Go.RowKit
set_option linter.unusedVariables false
set_option linter.unusedSimpArgs false
attribute [local go_sem] ba_get ba_cut ba_add
/-- What the document's Great counts, with 64 bits. -/
def Pl.greatN (s : Pl.Snap) : Int := wrap64 (Pl.totN s : Int)
theorem upto_sum (s : Pl.Snap) {k : Nat} (h : k < 3) : sumLen (Pl.upto s (k + 1)) = sumLen (Pl.upto s k) + sumLen (Pl.ck s k) := by rw [upto_succ s h, sumLen_append]
theorem wrap_in (x : Int) : -9223372036854775808 ≤ wrap64 x ∧ wrap64 x ≤ 9223372036854775807 := by unfold wrap64; omega
theorem wrap_two (a : Int) (b : Int) : wrap64 (wrap64 a + b) = wrap64 (a + b) := by unfold wrap64; omega
theorem wpList_load_mid_g {P : Program} {ops : Array Oper} {rest : List Oper} {op : Oper} {a : Act} {w : World} {Q : Exit → Act → World → Prop} (hw : Region.wanted op (yielded ops a.tmps) = true) (ty : TypeId) (x : Operand) (ho : op.op = .load ty x)
    (b o : Nat) (hx : a.eval x = .pointer (some ⟨b, o, none⟩)) (cs : List Value) (d : TypeDesc) (hc : w.rangeAt b o cs)
    (hu : P.underlying ty = some d) (hd : d.isRow = true) (hi : (P.info? ty).map (·.size) = some cs.length)
    (h : wpList P ops Q rest (a.put op.dst (.agg cs.toArray)) w) : wpList P ops Q (op :: rest) a w :=
  wpList_step fun K hK => by rw [if_pos hw]; exact wp_load_mid ty x ho b o hx cs d hc hu hd hi (hK _ _ h)
theorem three_cell {V : World} {B : Nat} {s : Pl.Snap} {X : Cx} (hx : SnAt V B 0 s X) {k : Nat} (hk : k < 3) : ∃ A n c, V.cell? ⟨B, 6 + k, none⟩ = some (.slice A n c) ∧ (∀ w, SnOk w s X → SlAt w 1 A n c (strs (Pl.ck s k))) := by
  obtain ⟨-, c0, c1, c2, c3, c4, c5, c6, c7, c8⟩ := hx
  simp only [Nat.zero_add] at c6 c7 c8
  obtain rfl | rfl | rfl : k = 0 ∨ k = 1 ∨ k = 2 := by omega
  · exact ⟨_, _, _, c6, fun w h => h.s0⟩
  · exact ⟨_, _, _, c7, fun w h => h.s1⟩
  · exact ⟨_, _, _, c8, fun w h => h.s2⟩
theorem retq_quiet {f : FuncId} {args : Array Value} {w : World} {n : Nat} {v : Value} (h : ∀ w', (∃ n, w' = w.drewN n) → Calls Tryd.prog f args w' (RetQ v w')) : Calls Tryd.prog f args (w.drewN n) fun e w'' => e = .returned v ∧ ∃ m, w'' = w.drewN m :=
  (h _ ⟨n, rfl⟩).mono fun _ _ ⟨he, m, hw⟩ => ⟨he, n + m, by rw [hw, World.drewN_drewN]⟩
theorem snAt_sum {V : World} {B : Nat} {s : Pl.Snap} {X : Cx} (hx : SnAt V B 0 s X) : V.rangeAt B 9 (byC s.sum) := fun j v hv => by
  have := hx.all (9 + j) v (by simpa [snL, Nat.add_comm] using hv)
  rwa [Nat.zero_add] at this
def SameTo (a b : Pl.Snap) (k : Nat) : Prop := ∀ j, j < k → Pl.ck a j = Pl.ck b j
theorem sameTo_step {a b : Pl.Snap} {k : Nat} (h : SameTo a b k) (hk : Pl.ck a k = Pl.ck b k) : SameTo a b (k + 1) := fun j hj => by
  rcases Nat.lt_or_ge j k with h1 | h1
  · exact h j h1
  · obtain rfl : j = k := by omega
    exact hk
theorem eqS_no {a b : Pl.Snap} {k : Nat} (hk : k < 3) (h : Pl.ck a k ≠ Pl.ck b k) : Pl.eqS a b = false := by
  cases he : Pl.eqS a b
  · rfl
  · rw [Pl.eqS_iff] at he
    exact absurd (by rw [he]) h
/-- The fields that aren't rows of names. -/
def Pl.lone (a b : Pl.Snap) : Bool := decide (a.m = b.m) && (decide (a.n = b.n) && (decide (a.at_ = b.at_) && (decide (a.clock = b.clock) && (decide (a.pages = b.pages) && (decide (a.blocks = b.blocks) && decide (a.sum = b.sum))))))
theorem eqS_lone {a b : Pl.Snap} (h : SameTo a b 3) : Pl.eqS a b = Pl.lone a b := by
  have h0 : a.c0 = b.c0 := h 0 (by omega)
  have h1 : a.c1 = b.c1 := h 1 (by omega)
  have h2 : a.c2 = b.c2 := h 2 (by omega)
  unfold Pl.eqS Pl.lone
  simp [h0, h1, h2]
end Go.Proofs.YtadoplgmeoghmaaDoor
