/- The walks of exe.pages, exe.Check, exe.words and the reference's pages, Check, text. -/
import Derived.Test.YtplhmhclcfclhaaExePlain
import Derived.Test.YtplhmhclcfclhaaGetW
import Derived.Test.YtplhmhclcfclhaaShelf
import Derived.Deep.QuietTactic
import Derived.BigQuiet
import Derived.Deep.RegionHeld3
namespace Go.Proofs.Ytplhmhclcfclhaa
open Go.RowKit
attribute [local go_sem] ba_get ba_add

/-- Words as cells. -/
def u32s (l : List Nat) : List Value := l.map fun n : Nat => .int .u32 (n : Int)
theorem u32s_len (l : List Nat) : (u32s l).length = l.length := by simp [u32s]
theorem u32s_get (l : List Nat) (i : Nat) (h : i < l.length) : (u32s l)[i]? = some (.int .u32 (l[i] : Int)) := by simp [u32s, h]
/-- A program as a value: its words at A. -/
def exeV (A : Option Addr) (c : Nat) (x : Pl.Exe) : Value := .agg #[.slice A x.text.length c, .string ⟨x.data.toArray⟩, .int .i64 x.room, .int .u32 (x.entry : Int)]

set_option maxRecDepth 100000 in
theorem pages_any (n : Int) (w : World) (h0 : 0 ≤ n) (h1 : n ≤ 9223372036854775000) : Calls Try.prog 48 #[.int .i64 n] w (Ret (.int .i64 (Pl.pagesN n)) w) := by
  go_enter Try.func48, Try.ntmps48
  go_wp2
  go_ret
  exact ⟨by show Ending.returned _ = Ending.returned _; simp [Pl.pagesN]; omega, rfl⟩
set_option maxRecDepth 100000 in
theorem rpages_any (n : Int) (w : World) (h0 : 0 ≤ n) (h1 : n ≤ 9223372036854775000) : Calls Try.prog 52 #[.int .i64 n] w (Ret (.int .i64 (Pl.pagesN n)) w) := by
  go_enter Try.func52, Try.ntmps52
  go_wp2
  go_ret
  exact ⟨by simp [Pl.pagesN], rfl⟩

theorem quiet_ret {P : Program} {f : FuncId} {args : Array Value} {w : World} {n : Nat} {v : Value} (h : Calls P f args (w.drewN n) (Ret v (w.drewN n))) :
    Calls P f args (w.drewN n) fun e w'' => e = .returned v ∧ ∃ m, w'' = w.drewN m :=
  h.mono fun _ _ ⟨he, hm⟩ => ⟨he, n, hm.symm⟩
theorem chk_bad {x : Pl.Exe} (h : x.text.length < 1 ∨ 448 < x.text.length ∨ x.room < 0 ∨ x.entry % 4 ≠ 0 ∨ 4 * x.text.length ≤ x.entry ∨ 1792 < x.data.length ∨ 1792 < x.room ∨ 14 < Pl.pagesN (4 * x.text.length) + Pl.pagesN (x.data.length + x.room)) : Pl.chk x = 1 := by
  have : Pl.chkB x = true := by unfold Pl.chkB; exact decide_eq_true h
  simp [Pl.chk, this]
theorem chk_good {x : Pl.Exe} (h : ¬ (x.text.length < 1 ∨ 448 < x.text.length ∨ x.room < 0 ∨ x.entry % 4 ≠ 0 ∨ 4 * x.text.length ≤ x.entry ∨ 1792 < x.data.length ∨ 1792 < x.room ∨ 14 < Pl.pagesN (4 * x.text.length) + Pl.pagesN (x.data.length + x.room))) : Pl.chk x = 0 := by
  have : Pl.chkB x = false := by unfold Pl.chkB; exact decide_eq_false h
  simp [Pl.chk, this]
/-- What is known of a program that came in. -/
structure ExeOk (x : Pl.Exe) : Prop where
  n : x.text.length ≤ 140737488355328
  d : x.data.length ≤ 140737488355328
  r0 : -9223372036854775808 ≤ x.room
  r1 : x.room ≤ 9223372036854775807
  e : x.entry < 4294967296

set_option maxRecDepth 100000 in
set_option maxHeartbeats 1000000 in
theorem check_any (A : Option Addr) (c : Nat) (x : Pl.Exe) (w : World) (hx : ExeOk x) :
    Calls Try.prog 32 #[exeV A c x] w (RetB (fun v _ => v = .int .i64 (Pl.chk x : Int)) w) := by
  obtain ⟨t, d, room, entry⟩ := x
  obtain ⟨hn, hd, hr0, hr1, he⟩ := hx
  simp only at hn hd hr0 hr1 he
  unfold exeV
  simp only
  by_cases g : t.length < 1 ∨ 448 < t.length ∨ room < 0 ∨ entry % 4 ≠ 0 ∨ 4 * t.length ≤ entry
  · have hb := chk_bad (x := ⟨t, d, room, entry⟩) (by simp only; omega)
    rw [hb]
    have HB := Lib.hid hb; clear hb
    go_enter Try.func32, Try.ntmps32
    go_wp2_with fail
    all_goals try (exfalso; omega)
    all_goals go_ret
    all_goals exact ⟨_, rfl, rfl, (Below.refl _ _).alloc (Nat.le_refl _) _⟩
  · have g1 : 1 ≤ (t.length : Int) := by omega
    have g2 : (t.length : Int) ≤ 448 := by omega
    have g3 : 0 ≤ room := by omega
    have g4 : (entry : Int) % 4 = 0 := by omega
    have g5 : (entry : Int) < 4 * t.length := by omega
    by_cases k1 : 1792 < d.length
    · have k1' : decide (1792 < (d.length : Int)) = true := by simp; omega
      rw [chk_bad (x := ⟨t, d, room, entry⟩) (by simp only; omega)]
      clear g
      go_enter Try.func32, Try.ntmps32
      go_wp2_with fail
      go_quiet (fail)
      go_wp2_with fail
      go_ret
      exact ⟨_, rfl, rfl, below_drewN ((Below.refl _ _).alloc (Nat.le_refl _) _) _⟩
    · have k1' : decide (1792 < (d.length : Int)) = false := by simp; omega
      by_cases k2 : 1792 < room
      · have k2' : decide (1792 < room) = true := by simp; omega
        rw [chk_bad (x := ⟨t, d, room, entry⟩) (by simp only; omega)]
        clear g
        go_enter Try.func32, Try.ntmps32
        go_wp2_with fail
        go_quiet (fail)
        go_wp2_with fail
        go_ret
        exact ⟨_, rfl, rfl, below_drewN ((Below.refl _ _).alloc (Nat.le_refl _) _) _⟩
      · have k2' : decide (1792 < room) = false := by simp; omega
        have e1 : IntKind.i64.wrap (4 * (t.length : Int)) = 4 * t.length := IntWalk.i64_in _ (by omega)
        have e2 : IntKind.i64.wrap ((d.length : Int) + room) = d.length + room := IntWalk.i64_in _ (by omega)
        have p1 : 0 ≤ 4 * (t.length : Int) := by omega
        have p2 : 4 * (t.length : Int) ≤ 9223372036854775000 := by omega
        have p3 : 0 ≤ (d.length : Int) + room := by omega
        have p4 : (d.length : Int) + room ≤ 9223372036854775000 := by omega
        have pb1 : Pl.pagesN (4 * t.length) ≤ 100 := by unfold Pl.pagesN; omega
        have pb2 : Pl.pagesN (d.length + room) ≤ 100 := by unfold Pl.pagesN; omega
        have pb3 : 0 ≤ Pl.pagesN (4 * t.length) := by unfold Pl.pagesN; omega
        have pb4 : 0 ≤ Pl.pagesN (d.length + room) := by unfold Pl.pagesN; omega
        have e3 : IntKind.i64.wrap (Pl.pagesN (4 * t.length) + Pl.pagesN (d.length + room)) = Pl.pagesN (4 * t.length) + Pl.pagesN (d.length + room) := IntWalk.i64_in _ (by omega)
        by_cases k3 : 14 < Pl.pagesN (4 * t.length) + Pl.pagesN (d.length + room)
        · have k3' : decide (14 < Pl.pagesN (4 * t.length) + Pl.pagesN (d.length + room)) = true := by simpa using k3
          rw [chk_bad (x := ⟨t, d, room, entry⟩) (by simp only; omega)]
          clear g
          go_enter Try.func32, Try.ntmps32
          go_wp2_with fail
          go_quiet ((go_at_call 48; (with_reducible refine quiet_ret (pages_any _ _ ?_ ?_)) <;> assumption))
          go_wp2_with fail
          go_ret
          exact ⟨_, rfl, rfl, below_drewN ((Below.refl _ _).alloc (Nat.le_refl _) _) _⟩
        · have k3' : decide (14 < Pl.pagesN (4 * t.length) + Pl.pagesN (d.length + room)) = false := by simpa using k3
          rw [chk_good (x := ⟨t, d, room, entry⟩) (by simp only; omega)]
          clear g
          go_enter Try.func32, Try.ntmps32
          go_wp2_with fail
          go_quiet ((go_at_call 48; (with_reducible refine quiet_ret (pages_any _ _ ?_ ?_)) <;> assumption))
          go_wp2_with fail
          go_ret
          exact ⟨_, rfl, rfl, below_drewN ((Below.refl _ _).alloc (Nat.le_refl _) _) _⟩

set_option maxRecDepth 100000 in
set_option maxHeartbeats 1000000 in
theorem rcheck_any (A : Option Addr) (c : Nat) (x : Pl.Exe) (w : World) (hx : ExeOk x) :
    Calls Try.prog 29 #[exeV A c x] w (RetB (fun v _ => v = .int .i64 (Pl.chk x : Int)) w) := by
  obtain ⟨t, d, room, entry⟩ := x
  obtain ⟨hn, hd, hr0, hr1, he⟩ := hx
  simp only at hn hd hr0 hr1 he
  unfold exeV
  simp only
  by_cases g : t.length < 1 ∨ 448 < t.length ∨ room < 0 ∨ 2048 < room ∨ 2048 < d.length ∨ entry % 4 ≠ 0 ∨ 4 * t.length ≤ entry
  · have hb := chk_bad (x := ⟨t, d, room, entry⟩) (by simp only; omega)
    rw [hb]
    have HB := Lib.hid hb; clear hb
    go_enter Try.func29, Try.ntmps29
    go_wp2_with fail
    all_goals try (exfalso; omega)
    all_goals go_ret
    all_goals exact ⟨_, rfl, rfl, (Below.refl _ _).alloc (Nat.le_refl _) _⟩
  · have g1 : 1 ≤ (t.length : Int) := by omega
    have g2 : (t.length : Int) ≤ 448 := by omega
    have g3 : 0 ≤ room := by omega
    have g4 : (entry : Int) % 4 = 0 := by omega
    have g5 : (entry : Int) < 4 * t.length := by omega
    have g6 : room ≤ 2048 := by omega
    have g7 : (d.length : Int) ≤ 2048 := by omega
    have e1 : IntKind.i64.wrap (4 * (t.length : Int)) = 4 * t.length := IntWalk.i64_in _ (by omega)
    have e2 : IntKind.i64.wrap ((d.length : Int) + room) = d.length + room := IntWalk.i64_in _ (by omega)
    have p1 : 0 ≤ 4 * (t.length : Int) := by omega
    have p2 : 4 * (t.length : Int) ≤ 9223372036854775000 := by omega
    have p3 : 0 ≤ (d.length : Int) + room := by omega
    have p4 : (d.length : Int) + room ≤ 9223372036854775000 := by omega
    have pb1 : Pl.pagesN (4 * t.length) ≤ 100 := by unfold Pl.pagesN; omega
    have pb2 : Pl.pagesN (d.length + room) ≤ 100 := by unfold Pl.pagesN; omega
    have pb3 : 0 ≤ Pl.pagesN (4 * t.length) := by unfold Pl.pagesN; omega
    have pb4 : 0 ≤ Pl.pagesN (d.length + room) := by unfold Pl.pagesN; omega
    have e3 : IntKind.i64.wrap (Pl.pagesN (4 * t.length) + Pl.pagesN (d.length + room)) = Pl.pagesN (4 * t.length) + Pl.pagesN (d.length + room) := IntWalk.i64_in _ (by omega)
    by_cases k3 : 14 < Pl.pagesN (4 * t.length) + Pl.pagesN (d.length + room)
    · have k3' : decide (14 < Pl.pagesN (4 * t.length) + Pl.pagesN (d.length + room)) = true := by simpa using k3
      rw [chk_bad (x := ⟨t, d, room, entry⟩) (by simp only; omega)]
      clear g
      go_enter Try.func29, Try.ntmps29
      go_wp2_with fail
      go_quiet ((go_at_call 52; (with_reducible refine quiet_ret (rpages_any _ _ ?_ ?_)) <;> assumption))
      go_wp2_with fail
      go_ret
      exact ⟨_, rfl, rfl, below_drewN ((Below.refl _ _).alloc (Nat.le_refl _) _) _⟩
    · have k3' : decide (14 < Pl.pagesN (4 * t.length) + Pl.pagesN (d.length + room)) = false := by simpa using k3
      have hgood := chk_good (x := ⟨t, d, room, entry⟩) (by
        simp only
        have hh : (4 * t.length : Int) ≥ 4 := by omega
        unfold Pl.pagesN at k3 ⊢
        omega)
      rw [hgood]
      clear g hgood
      go_enter Try.func29, Try.ntmps29
      go_wp2_with fail
      go_quiet ((go_at_call 52; (with_reducible refine quiet_ret (rpages_any _ _ ?_ ?_)) <;> assumption))
      go_wp2_with fail
      go_ret
      exact ⟨_, rfl, rfl, below_drewN ((Below.refl _ _).alloc (Nat.le_refl _) _) _⟩
end Go.Proofs.Ytplhmhclcfclhaa
