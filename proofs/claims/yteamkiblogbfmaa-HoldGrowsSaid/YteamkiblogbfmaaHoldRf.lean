/- Snapshots compared; the walk of the document's Refs, where both are the same; and of anything that compares. -/
import Derived.Test.YteamkiblogbfmaaHoldMem
import Derived.Laws.StructEq
import Derived.Deep.QuietTactic
import Derived.BigQuiet
import Derived.LoopTactic
namespace Go.Proofs.Yteamkiblogbfmaa
open Go.RowKit
set_option linter.unusedVariables false
set_option linter.unusedSimpArgs false
def rfB (a b : Pl.Rf) : Bool := a.m == b.m && (a.n == b.n && (a.t == b.t && (a.nm == b.nm && a.til == b.til)))
theorem rfB_iff (a b : Pl.Rf) : rfB a b = true ↔ a = b := by
  obtain ⟨am, an, at', anm, atil⟩ := a
  obtain ⟨bm, bn, bt, bnm, btil⟩ := b
  simp [rfB]
theorem rfB_no (a b : Pl.Rf) : rfB a b = false ↔ a ≠ b := by
  rw [← Bool.not_eq_true, Ne, rfB_iff]
theorem rfB_self (a : Pl.Rf) : rfB a a = true := (rfB_iff a a).2 rfl
set_option maxRecDepth 100000 in
theorem rf_eq (a b : Pl.Rf) (w : World) : (Op.equalIn 10000 38 (.agg #[.string ⟨a.m.toArray⟩, .int .i64 a.n, .int .i64 a.t, .string ⟨a.nm.toArray⟩, .int .i64 a.til]) (.agg #[.string ⟨b.m.toArray⟩, .int .i64 b.n, .int .i64 b.t, .string ⟨b.nm.toArray⟩, .int .i64 b.til])).run Try.prog w = .ok (rfB a b) w := by
  rw [run_equalIn_struct w 9999 38 _ _ (by kernel_rfl) (by kernel_rfl)]
  simp only [Program.fieldsOf, Try.underlying38]
  simp [Op.eqFields, part, isAgg, run_underlying Try.underlying9, run_underlying Try.underlying3, run_underlying Try.underlying2, Sem.run_bind]
  have es : ∀ (l k : List UInt8) (W : World), (Op.equalIn 9999 9 (.string ⟨l.toArray⟩) (.string ⟨k.toArray⟩)).run Try.prog W = .ok (l == k) W := by
    intro l k W
    rw [run_equalIn_string W 9998 9 _ _ Try.underlying9]
    simp [go_sem]
  have ei : ∀ (t : TypeId) (k k' : IntKind) (x y : Int) (W : World), Try.prog.underlying t = some (.int k') → (Op.equalIn 9999 t (.int k x) (.int k y)).run Try.prog W = .ok (x == y) W := by
    intro t k k' x y W h
    rw [run_equalIn_int W 9998 t k k' _ _ h]
  simp only [es, ei _ _ _ _ _ _ Try.underlying3, ei _ _ _ _ _ _ Try.underlying2, Result.andThen_ok]
  unfold rfB
  generalize (a.m == b.m) = q0
  generalize (a.n == b.n) = q1
  generalize (a.t == b.t) = q2
  generalize (a.nm == b.nm) = q3
  generalize (a.til == b.til) = q4
  cases q0 <;> cases q1 <;> cases q2 <;> cases q3 <;> cases q4 <;> rfl
set_option maxRecDepth 100000 in
set_option maxHeartbeats 1000000 in
theorem rrefs_same (s t : Value) (l : List Pl.Rf) (w : World) (hn : l.length ≤ 1000000) (hs : SlV w 5 s l.length (rfCs l)) (ht : SlV w 5 t l.length (rfCs l)) : Calls Try.prog 14 #[s, t] w (RetB (fun v _ => v = .bool true) w) := by
  obtain ⟨A, c, rfl, hr, -⟩ := hs
  obtain ⟨A', c', rfl, hr', -⟩ := ht
  obtain ⟨N, hN⟩ : ∃ N, N = l.length := ⟨_, rfl⟩
  rw [← hN] at hr hr' hn ⊢
  have HH := Lib.hid (And.intro hr (And.intro hr' hN)); clear hr hr' hN
  go_enter Try.func14, Try.ntmps14
  go_wp2_with fail
  go_loopw [5] (fun i wr => ∃ (j k : Nat), j ≤ N ∧ i = .int .i64 (j : Nat) ∧ wr = w.drewN k) (fun i _ => N - (intOf i).toNat)
  case atStart => exact ⟨0, 0, by omega, rfl, rfl⟩
  case round =>
    obtain ⟨j, k, hj, rfl, rfl⟩ := hrel
    by_cases hjn : j < N
    · obtain ⟨b, off, rfl, hlt, hrf⟩ := HH.out.1.rf HH.out.2.2.symm hjn
      obtain ⟨b', off', rfl, hlt', hrf'⟩ := HH.out.2.1.rf HH.out.2.2.symm hjn
      obtain ⟨y, hy⟩ : ∃ y, l.getD j default = y := ⟨_, rfl⟩
      obtain ⟨c0, c1, c2, c3, c4⟩ := hrf y hy
      obtain ⟨d0, d1, d2, d3, d4⟩ := hrf' y hy
      have he := fun W => rf_eq y y W
      rw [rfB_self] at he
      clear hrf hrf' hy
      obtain ⟨ym, yn, yt, ynm, ytil⟩ := y
      simp only at c0 c1 c2 c3 c4 d0 d1 d2 d3 d4 he
      have hj1 : (0 : Int) ≤ (j : Int) := by omega
      have hj2 : (j : Int) < (N : Int) := by omega
      go_wp2_with fail
      go_quiet (fail)
      go_wp2_with fail
      go_roundw
      case rel => exact ⟨j + 1, _, by omega, by go_num, rfl⟩
      case measure => simp [intOf]; omega
    · obtain rfl : j = N := by omega
      go_wp2_with fail
      go_ret
      exact ⟨_, rfl, rfl, below_drewN (Below.refl _ _) _⟩
end Go.Proofs.Yteamkiblogbfmaa
