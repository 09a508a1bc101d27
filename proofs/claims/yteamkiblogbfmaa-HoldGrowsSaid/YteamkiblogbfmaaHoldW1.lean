/- The walks of slices.Clone at a root's lists, hold.find, the document's Find. -/
import Derived.Test.YteamkiblogbfmaaHoldMem
import Derived.LoopTactic
namespace Go.Proofs.Yteamkiblogbfmaa
open Go.RowKit
set_option linter.unusedVariables false
set_option linter.unusedSimpArgs false
theorem info_rf : (Try.prog.info? 38).map (fun i => (i.zero, i.size, i.bytes)) = some (some (.agg #[.string ⟨#[]⟩, .int .i64 0, .int .i64 0, .string ⟨#[]⟩, .int .i64 0]), 5, 56) := by kernel_rfl
theorem info_pkd : (Try.prog.info? 59).map (fun i => (i.zero, i.size, i.bytes)) = some (some (.agg #[.string ⟨#[]⟩, .slice none 0 0]), 2, 40) := by kernel_rfl
theorem info_plc : (Try.prog.info? 61).map (fun i => (i.zero, i.size, i.bytes)) = some (some (.agg #[.string ⟨#[]⟩, .int .i64 0, .int .i64 0]), 3, 32) := by kernel_rfl
def chZ : Value := .agg (([Value.string ⟨#[]⟩, Value.int .u64 0] : List Value) ++ List.replicate 32 (Value.int .u8 0)).toArray
theorem info_cha : (Try.prog.info? 56).map (fun i => (i.zero, i.size, i.bytes)) = some (some chZ, 34, 56) := by kernel_rfl
theorem chZ_size : chZ.cells.size = 34 := by kernel_rfl
/-- What slices.Clone returns: a row of its own, of the same cells. -/
def CloneOut (B : Nat) (t : TypeId) (k n : Nat) (xs : List Value) (v : Value) (w' : World) : Prop := w'.ownsRow B t k v n xs
set_option maxRecDepth 100000 in
theorem clone_rf (s : Value) (n : Nat) (xs : List Value) (w : World) (hs : SlV w 5 s n xs) (h1 : ∀ u ∈ xs, u.oneCell' = true) (hb : n * 56 ≤ 140737488355328) :
    Calls Try.prog 36 #[s] w (RetB (CloneOut w.heap.size 38 5 n xs) w) := by
  have HI := Lib.hid (And.intro info_rf h1); clear h1
  obtain ⟨A, c, rfl, hr, hnil⟩ := hs
  rcases A with _ | ad
  · obtain rfl := hnil rfl
    have hn : n = 0 := by
      rcases Nat.eq_zero_or_pos n with h | h
      · exact h
      · obtain ⟨_, _, h, _⟩ := hr.2 h; cases h
    subst hn
    obtain rfl : xs = [] := List.eq_nil_of_length_eq_zero (by have := hr.1; simpa using this)
    have q0 : (binOp .eql 22 (.slice none 0 0) (.slice none 0 0)).run Try.prog w = .ok (.bool true) w := Lib.run_eql_slice_nil w _ _ none 0 0 0 0 Try.underlying22
    go_enter Try.func36, Try.ntmps36
    go_wp2_with fail
    go_ret
    exact ⟨_, rfl, World.ownsRow_nil _ _ _ _, Below.refl _ _⟩
  · have q1 : (binOp .eql 22 (.slice (some ad) n c) (.slice none 0 0)).run Try.prog w = .ok (.bool false) w := Lib.run_eql_slice_nil w _ _ (some ad) n c 0 0 Try.underlying22
    have HR := Lib.hid (And.intro hr hnil); clear hr hnil
    have hown : (w.alloc (.cells #[] 38)).ownsRow w.heap.size 38 5 (.slice (some ⟨w.heap.size, 0, none⟩) 0 0) 0 [] := World.ownsRow_made w #[] 0 (Nat.le_refl _) (by simp [maxLen]) (by simp)
    go_enter Try.func36, Try.ntmps36
    go_wp2_with (at_builtin; refine push_many rfl (.tmp 5) (.tmp 6) 22 rfl w.heap.size 38 (.agg #[.string ⟨#[]⟩, .int .i64 0, .int .i64 0, .string ⟨#[]⟩, .int .i64 0]) 5 56 Try.underlying22 HI.out.1 (by decide) (by decide) _ _ _ _ (some ad) n c xs rfl hown rfl (HR.out.1.alloc _) HR.out.2 HI.out.2 (by omega) (by omega) (by simp) ?_; intro v1 w2 hown1 hb2; obtain ⟨A1, c1, rfl⟩ := own_form' hown1)
    go_ret
    rw [Nat.zero_add] at hown1
    exact ⟨_, rfl, hown1, ((Below.refl _ _).alloc (Nat.le_refl _) _).trans hb2⟩
set_option maxRecDepth 100000 in
theorem clone_pkd (s : Value) (n : Nat) (xs : List Value) (w : World) (hs : SlV w 2 s n xs) (h1 : ∀ u ∈ xs, u.oneCell' = true) (hb : n * 40 ≤ 140737488355328) :
    Calls Try.prog 37 #[s] w (RetB (CloneOut w.heap.size 59 2 n xs) w) := by
  have HI := Lib.hid (And.intro info_pkd h1); clear h1
  obtain ⟨A, c, rfl, hr, hnil⟩ := hs
  rcases A with _ | ad
  · obtain rfl := hnil rfl
    have hn : n = 0 := by
      rcases Nat.eq_zero_or_pos n with h | h
      · exact h
      · obtain ⟨_, _, h, _⟩ := hr.2 h; cases h
    subst hn
    obtain rfl : xs = [] := List.eq_nil_of_length_eq_zero (by have := hr.1; simpa using this)
    have q0 : (binOp .eql 23 (.slice none 0 0) (.slice none 0 0)).run Try.prog w = .ok (.bool true) w := Lib.run_eql_slice_nil w _ _ none 0 0 0 0 Try.underlying23
    go_enter Try.func37, Try.ntmps37
    go_wp2_with fail
    go_ret
    exact ⟨_, rfl, World.ownsRow_nil _ _ _ _, Below.refl _ _⟩
  · have q1 : (binOp .eql 23 (.slice (some ad) n c) (.slice none 0 0)).run Try.prog w = .ok (.bool false) w := Lib.run_eql_slice_nil w _ _ (some ad) n c 0 0 Try.underlying23
    have HR := Lib.hid (And.intro hr hnil); clear hr hnil
    have hown : (w.alloc (.cells #[] 59)).ownsRow w.heap.size 59 2 (.slice (some ⟨w.heap.size, 0, none⟩) 0 0) 0 [] := World.ownsRow_made w #[] 0 (Nat.le_refl _) (by simp [maxLen]) (by simp)
    go_enter Try.func37, Try.ntmps37
    go_wp2_with (at_builtin; refine push_many rfl (.tmp 5) (.tmp 6) 23 rfl w.heap.size 59 (.agg #[.string ⟨#[]⟩, .slice none 0 0]) 2 40 Try.underlying23 HI.out.1 (by decide) (by decide) _ _ _ _ (some ad) n c xs rfl hown rfl (HR.out.1.alloc _) HR.out.2 HI.out.2 (by omega) (by omega) (by simp) ?_; intro v1 w2 hown1 hb2; obtain ⟨A1, c1, rfl⟩ := own_form' hown1)
    go_ret
    rw [Nat.zero_add] at hown1
    exact ⟨_, rfl, hown1, ((Below.refl _ _).alloc (Nat.le_refl _) _).trans hb2⟩
set_option maxRecDepth 100000 in
theorem clone_plc (s : Value) (n : Nat) (xs : List Value) (w : World) (hs : SlV w 3 s n xs) (h1 : ∀ u ∈ xs, u.oneCell' = true) (hb : n * 32 ≤ 140737488355328) :
    Calls Try.prog 38 #[s] w (RetB (CloneOut w.heap.size 61 3 n xs) w) := by
  have HI := Lib.hid (And.intro info_plc h1); clear h1
  obtain ⟨A, c, rfl, hr, hnil⟩ := hs
  rcases A with _ | ad
  · obtain rfl := hnil rfl
    have hn : n = 0 := by
      rcases Nat.eq_zero_or_pos n with h | h
      · exact h
      · obtain ⟨_, _, h, _⟩ := hr.2 h; cases h
    subst hn
    obtain rfl : xs = [] := List.eq_nil_of_length_eq_zero (by have := hr.1; simpa using this)
    have q0 : (binOp .eql 57 (.slice none 0 0) (.slice none 0 0)).run Try.prog w = .ok (.bool true) w := Lib.run_eql_slice_nil w _ _ none 0 0 0 0 Try.underlying57
    go_enter Try.func38, Try.ntmps38
    go_wp2_with fail
    go_ret
    exact ⟨_, rfl, World.ownsRow_nil _ _ _ _, Below.refl _ _⟩
  · have q1 : (binOp .eql 57 (.slice (some ad) n c) (.slice none 0 0)).run Try.prog w = .ok (.bool false) w := Lib.run_eql_slice_nil w _ _ (some ad) n c 0 0 Try.underlying57
    have HR := Lib.hid (And.intro hr hnil); clear hr hnil
    have hown : (w.alloc (.cells #[] 61)).ownsRow w.heap.size 61 3 (.slice (some ⟨w.heap.size, 0, none⟩) 0 0) 0 [] := World.ownsRow_made w #[] 0 (Nat.le_refl _) (by simp [maxLen]) (by simp)
    go_enter Try.func38, Try.ntmps38
    go_wp2_with (at_builtin; refine push_many rfl (.tmp 5) (.tmp 6) 57 rfl w.heap.size 61 (.agg #[.string ⟨#[]⟩, .int .i64 0, .int .i64 0]) 3 32 Try.underlying57 HI.out.1 (by decide) (by decide) _ _ _ _ (some ad) n c xs rfl hown rfl (HR.out.1.alloc _) HR.out.2 HI.out.2 (by omega) (by omega) (by simp) ?_; intro v1 w2 hown1 hb2; obtain ⟨A1, c1, rfl⟩ := own_form' hown1)
    go_ret
    rw [Nat.zero_add] at hown1
    exact ⟨_, rfl, hown1, ((Below.refl _ _).alloc (Nat.le_refl _) _).trans hb2⟩
set_option maxRecDepth 100000 in
theorem clone_cha (s : Value) (n : Nat) (xs : List Value) (w : World) (hs : SlV w 34 s n xs) (h1 : ∀ u ∈ xs, u.oneCell' = true) (hb : n * 56 ≤ 140737488355328) :
    Calls Try.prog 39 #[s] w (RetB (CloneOut w.heap.size 56 34 n xs) w) := by
  have HI := Lib.hid (And.intro info_cha h1); clear h1
  obtain ⟨A, c, rfl, hr, hnil⟩ := hs
  rcases A with _ | ad
  · obtain rfl := hnil rfl
    have hn : n = 0 := by
      rcases Nat.eq_zero_or_pos n with h | h
      · exact h
      · obtain ⟨_, _, h, _⟩ := hr.2 h; cases h
    subst hn
    obtain rfl : xs = [] := List.eq_nil_of_length_eq_zero (by have := hr.1; simpa using this)
    have q0 : (binOp .eql 26 (.slice none 0 0) (.slice none 0 0)).run Try.prog w = .ok (.bool true) w := Lib.run_eql_slice_nil w _ _ none 0 0 0 0 Try.underlying26
    go_enter Try.func39, Try.ntmps39
    go_wp2_with fail
    go_ret
    exact ⟨_, rfl, World.ownsRow_nil _ _ _ _, Below.refl _ _⟩
  · have q1 : (binOp .eql 26 (.slice (some ad) n c) (.slice none 0 0)).run Try.prog w = .ok (.bool false) w := Lib.run_eql_slice_nil w _ _ (some ad) n c 0 0 Try.underlying26
    have HR := Lib.hid (And.intro hr hnil); clear hr hnil
    have hown : (w.alloc (.cells #[] 56)).ownsRow w.heap.size 56 34 (.slice (some ⟨w.heap.size, 0, none⟩) 0 0) 0 [] := World.ownsRow_made w #[] 0 (Nat.le_refl _) (by simp [maxLen]) (by simp)
    go_enter Try.func39, Try.ntmps39
    go_wp2_with (at_builtin; refine push_many rfl (.tmp 5) (.tmp 6) 26 rfl w.heap.size 56 chZ 34 56 Try.underlying26 HI.out.1 chZ_size (by decide) _ _ _ _ (some ad) n c xs rfl hown rfl (HR.out.1.alloc _) HR.out.2 HI.out.2 (by omega) (by omega) (by simp) ?_; intro v1 w2 hown1 hb2; obtain ⟨A1, c1, rfl⟩ := own_form' hown1)
    go_ret
    rw [Nat.zero_add] at hown1
    exact ⟨_, rfl, hown1, ((Below.refl _ _).alloc (Nat.le_refl _) _).trans hb2⟩
end Go.Proofs.Yteamkiblogbfmaa
