/- EmA: NumW2 GetW ExeW1 ExeW2 ExeW3 LayPlain for ExeMade. -/
import Derived.Test.YtmmnkoeajdeldaaGreatDoorBase
import Derived.Test.YtmmnkoeajdeldaaGreatDoorNumPlain
import Derived.Deep.QuietTactic
import Derived.BigQuiet
import Derived.Deep.RegionWith
import Derived.Deep.RegionHeld3
import Derived.Test.YtmmnkoeajdeldaaGreatDoorPutW
import Derived.Test.YtmmnkoeajdeldaaGreatDoorExePlain
import Derived.Test.YtmmnkoeajdeldaaGreatDoorShelf
namespace Go.Proofs.YtmmnkoeajdeldaaGreatDoor
open Go.RowKit
attribute [local go_sem] ba_get

/-- Drawn a few times, the world else as it was. -/
def RetQ (v : Value) (w : World) (e : Ending) (w' : World) : Prop := e = .returned v ∧ ∃ n, w' = w.drewN n

/-- Are texts more than are looked at? -/
def sumLen : List (List UInt8) → Nat
  | [] => 0
  | s :: l => s.length + 1 + sumLen l
theorem sumLen_snoc (l : List (List UInt8)) (s : List UInt8) : sumLen (l ++ [s]) = sumLen l + (s.length + 1) := by
  induction l with
  | nil => simp [sumLen]
  | cons x l ih => simp [sumLen, ih]; omega
theorem sumLen_take (l : List (List UInt8)) (j : Nat) (h : j < l.length) : sumLen (l.take (j + 1)) = sumLen (l.take j) + (l[j].length + 1) := by
  rw [List.take_succ_eq_append_getElem h, sumLen_snoc]
theorem sumLen_le (l : List (List UInt8)) (j : Nat) : sumLen (l.take j) ≤ sumLen l := by
  induction l generalizing j with
  | nil => simp [sumLen]
  | cons x l ih => cases j <;> simp [sumLen]; exact ih _
theorem sumLen_length (l : List (List UInt8)) : l.length ≤ sumLen l := by
  induction l with
  | nil => simp [sumLen]
  | cons x l ih => simp [sumLen]; omega

end Go.Proofs.YtmmnkoeajdeldaaGreatDoor
namespace Go.Proofs.YtmmnkoeajdeldaaGreatDoor
open Go.RowKit
attribute [local go_sem] ba_get

theorem conv_byte (w : World) (b off c : Nat) (x : Int) (h : w.cell? ⟨b, off, none⟩ = some (.int .u8 x)) :
    (convert 59 9 (.slice (some ⟨b, off, none⟩) 1 c)).run Tryz.prog w = .ok (.string ⟨#[UInt8.ofNat x.toNat]⟩) w := by
  rw [run_convert_bytes_string w _ _ _ _ _ _ Tryz.underlying59 Tryz.underlying5 Tryz.underlying9]
  rw [run_bytesToString w ⟨b, off, none⟩ 1 c [x] ?_]
  · rfl
  · simp [loadCells, go_sem, h]
theorem cat_lists {P : Program} (w : World) (x y : List UInt8) (h : x.length + y.length ≤ 9223372036854775807) : (Op.stringOp .add ⟨x.toArray⟩ ⟨y.toArray⟩).run P w = .ok (.string ⟨(x ++ y).toArray⟩) w := by
  rw [run_string_add_sum w _ _ (by simpa [ByteArray.size] using h), ByteArray.mk_append_mk]
attribute [local go_sem] conv_byte
attribute [local go_sem] ba_add

theorem keep_new {w w' : World} {x : Value} {t : TypeId} {B : Nat} (hb : Below B (w.alloc (.cells #[x] t)).drew w') (hB : B = (w.alloc (.cells #[x] t)).drew.heap.size := by rfl) : w'.cell? ⟨w.heap.size, 0, none⟩ = some x := by
  subst hB
  refine (hb.cell (p := ⟨w.heap.size, 0, none⟩) (by simp)).trans ?_
  simp [go_sem]

end Go.Proofs.YtmmnkoeajdeldaaGreatDoor
namespace Go.Proofs.YtmmnkoeajdeldaaGreatDoor
open Go.RowKit
attribute [local go_sem] ba_get ba_cut conv_byte
attribute [local go_sem] cut_all List.drop_zero Nat.sub_zero ba_add

theorem or_byte (m k : Nat) (c : UInt8) (hk : k < 8) (hm : m < 256 ^ k) :
    bits .or .u64 (m : Int) (IntKind.u64.wrap ((c.toNat : Int) * 2 ^ (8 * k))) = ((m + c.toNat * 256 ^ k : Nat) : Int) ∧ m + c.toNat * 256 ^ k < 256 ^ (k + 1) := by
  have hc : c.toNat < 256 := c.toNat_lt
  have h1 : c.toNat * 256 ^ k ≤ 255 * 256 ^ k := Nat.mul_le_mul_right _ (by omega)
  have h2 : 256 ^ (k + 1) ≤ 256 ^ 8 := Nat.pow_le_pow_right (by omega) (by omega)
  have h3 : 256 ^ (k + 1) = 256 ^ k * 256 := Nat.pow_succ ..
  refine ⟨?_, by omega⟩
  have e : (c.toNat : Int) * 2 ^ (8 * k) = ((c.toNat * 256 ^ k : Nat) : Int) := by rw [Pl.pow8]; simp
  rw [e, IntWalk.u64_in _ ⟨by omega, by omega⟩]
  refine Pl.u64_join (8 * k) _ _ ?_ ?_ (by omega) (by omega)
  · rw [← Pl.pow8]; exact Nat.mul_mod_left _ _
  · rw [← Pl.pow8]; exact hm

set_option maxRecDepth 100000 in
set_option maxHeartbeats 1000000 in
theorem get_any (l : List UInt8) (hl : l.length ≤ 9223372036854775807) (w : World) :
    Calls Tryz.prog 56 #[.string ⟨l.toArray⟩] w (Ret (.int .u64 (Pl.getN (l.take 8))) w) := by
  obtain ⟨K, hK⟩ : ∃ K : Nat, min l.length 8 = K := ⟨_, rfl⟩
  have HK := Lib.hid hK; clear hK
  have hK8 : K ≤ 8 := by have := HK.out; omega
  have hKl : K ≤ l.length := by have := HK.out; omega
  have hKe : l.length ≤ K ∨ 8 ≤ K := by have := HK.out; omega
  have HT : Hid (l.take K = l.take 8) := by
    show l.take K = l.take 8
    rw [← HK.out]
    rcases Nat.le_total l.length 8 with h | h
    · rw [Nat.min_eq_left h, List.take_of_length_le (Nat.le_refl _), List.take_of_length_le h]
    · rw [Nat.min_eq_right h]
  by_cases h8 : l.length ≤ 8
  case pos => 
    replace hKe : l.length ≤ K := by omega
    go_enter Tryz.func56, Tryz.ntmps56
    go_wp2_with fail
    go_loop [3, 8] (fun t i => ∃ (j m : Nat), j ≤ K ∧ i = .int .i64 j ∧ t = .int .u64 m ∧ Hid (m = Pl.getN (l.take j))) (fun _ i => 8 - (intOf i).toNat)
    case atStart => exact ⟨0, 0, by omega, rfl, rfl, by simp [Hid, Pl.getN]⟩
    case round =>
      obtain ⟨j, m, hj, rfl, rfl, H⟩ := hrel
      by_cases hlt : j < K
      · have hjl : j < l.length := by omega
        obtain ⟨c, hc⟩ : ∃ c, l[j] = c := ⟨_, rfl⟩
        have hm : m < 256 ^ j := by
          have h1 := Pl.getN_lt (l.take j)
          rw [List.length_take, Nat.min_eq_left (by omega)] at h1
          rw [H.out]; exact h1
        have hor := or_byte m j c (by omega) hm
        have hst := Pl.getN_take l j hjl
        rw [hc, ← H.out] at hst
        have HH := Lib.hid (And.intro hst hor); clear hst hor hm
        have hcb := Pl.byte_lt c
        go_wp2_with fail
        go_round
        case rel =>
          obtain ⟨h1, h2, h3⟩ := HH.out
          exact ⟨j + 1, m + c.toNat * 256 ^ j, by omega, by go_num, by rw [h2], h1.symm⟩
        case measure => simp [intOf]; omega
      · go_wp2_with fail
        go_ret
        exact ⟨by rw [← HT.out, ← show j = K by omega, ← H.out]; rfl, rfl⟩
  case neg =>
    replace hKe : 8 ≤ K := by omega
    go_enter Tryz.func56, Tryz.ntmps56
    go_wp2_with fail
    go_loop [3, 8] (fun t i => ∃ (j m : Nat), j ≤ K ∧ i = .int .i64 j ∧ t = .int .u64 m ∧ Hid (m = Pl.getN (l.take j))) (fun _ i => 8 - (intOf i).toNat)
    case atStart => exact ⟨0, 0, by omega, rfl, rfl, by simp [Hid, Pl.getN]⟩
    case round =>
      obtain ⟨j, m, hj, rfl, rfl, H⟩ := hrel
      by_cases hlt : j < K
      · have hjl : j < l.length := by omega
        obtain ⟨c, hc⟩ : ∃ c, l[j] = c := ⟨_, rfl⟩
        have hm : m < 256 ^ j := by
          have h1 := Pl.getN_lt (l.take j)
          rw [List.length_take, Nat.min_eq_left (by omega)] at h1
          rw [H.out]; exact h1
        have hor := or_byte m j c (by omega) hm
        have hst := Pl.getN_take l j hjl
        rw [hc, ← H.out] at hst
        have HH := Lib.hid (And.intro hst hor); clear hst hor hm
        have hcb := Pl.byte_lt c
        go_wp2_with fail
        go_round
        case rel =>
          obtain ⟨h1, h2, h3⟩ := HH.out
          exact ⟨j + 1, m + c.toNat * 256 ^ j, by omega, by go_num, by rw [h2], h1.symm⟩
        case measure => simp [intOf]; omega
      · go_wp2_with fail
        go_ret
        exact ⟨by rw [← HT.out, ← show j = K by omega, ← H.out]; rfl, rfl⟩

end Go.Proofs.YtmmnkoeajdeldaaGreatDoor
namespace Go.Proofs.YtmmnkoeajdeldaaGreatDoor
open Go.RowKit
attribute [local go_sem] ba_get ba_add

/-- Words as cells. -/
def u32s (l : List Nat) : List Value := l.map fun n : Nat => .int .u32 (n : Int)
theorem u32s_len (l : List Nat) : (u32s l).length = l.length := by simp [u32s]
theorem u32s_get (l : List Nat) (i : Nat) (h : i < l.length) : (u32s l)[i]? = some (.int .u32 (l[i] : Int)) := by simp [u32s, h]
/-- A program as a value: its words at A. -/
def exeV (A : Option Addr) (c : Nat) (x : Pl.Exe) : Value := .agg #[.slice A x.text.length c, .string ⟨x.data.toArray⟩, .int .i64 x.room, .int .u32 (x.entry : Int)]

set_option maxRecDepth 100000 in
theorem pages_any (n : Int) (w : World) (h0 : 0 ≤ n) (h1 : n ≤ 9223372036854775000) : Calls Tryz.prog 91 #[.int .i64 n] w (Ret (.int .i64 (Pl.pagesN n)) w) := by
  go_enter Tryz.func91, Tryz.ntmps91
  go_wp2
  go_ret
  exact ⟨by show Ending.returned _ = Ending.returned _; simp [Pl.pagesN]; omega, rfl⟩
set_option maxRecDepth 100000 in
theorem rpages_any (n : Int) (w : World) (h0 : 0 ≤ n) (h1 : n ≤ 9223372036854775000) : Calls Tryz.prog 51 #[.int .i64 n] w (Ret (.int .i64 (Pl.pagesN n)) w) := by
  go_enter Tryz.func51, Tryz.ntmps51
  go_wp2
  go_ret
  exact ⟨by simp [Pl.pagesN], rfl⟩

theorem quiet_ret {P : Program} {f : FuncId} {args : Array Value} {w : World} {n : Nat} {v : Value} (h : Calls P f args (w.drewN n) (Ret v (w.drewN n))) :
    Calls P f args (w.drewN n) fun e w'' => e = .returned v ∧ ∃ m, w'' = w.drewN m :=
  h.mono fun _ _ ⟨he, hm⟩ => ⟨he, n, hm.symm⟩
theorem chk_bad {x : Pl.Exe} (h : x.text.length < 1 ∨ 448 < x.text.length ∨ x.room < 0 ∨ x.entry % 4 ≠ 0 ∨ 4 * x.text.length ≤ x.entry ∨ 1792 < x.data.length ∨ 1792 < x.room ∨ 14 < Pl.pagesN (4 * x.text.length) + Pl.pagesN (x.data.length + x.room)) : Pl.chk x = 1 := by
  have : Pl.chkB x = true := by unfold Pl.chkB; exact decide_eq_true h
  simp [Pl.chk, this]
theorem chk_good {x : Pl.Exe} (h : ¬ (x.text.length < 1 ∨ 448 < x.text.length ∨ x.room < 0 ∨ x.entry % 4 ≠ 0 ∨ 4 * x.text.length ≤ x.entry ∨ 1792 < x.data.length ∨ 1792 < x.room ∨ 14 < Pl.pagesN (4 * x.text.length) + Pl.pagesN (x.data.length + x.room))) : Pl.chk x = 0 := by
  have : Pl.chkB x = false := by unfold Pl.chkB; exact decide_eq_false h
  simp [Pl.chk, this]
/-- What is known of a program that came in. -/
structure ExeOk (x : Pl.Exe) : Prop where
  n : x.text.length ≤ 140737488355328
  d : x.data.length ≤ 140737488355328
  r0 : -9223372036854775808 ≤ x.room
  r1 : x.room ≤ 9223372036854775807
  e : x.entry < 4294967296

set_option maxRecDepth 100000 in
set_option maxHeartbeats 1000000 in
theorem check_any (A : Option Addr) (c : Nat) (x : Pl.Exe) (w : World) (hx : ExeOk x) :
    Calls Tryz.prog 52 #[exeV A c x] w (RetB (fun v _ => v = .int .i64 (Pl.chk x : Int)) w) := by
  obtain ⟨t, d, room, entry⟩ := x
  obtain ⟨hn, hd, hr0, hr1, he⟩ := hx
  simp only at hn hd hr0 hr1 he
  unfold exeV
  simp only
  by_cases g : t.length < 1 ∨ 448 < t.length ∨ room < 0 ∨ entry % 4 ≠ 0 ∨ 4 * t.length ≤ entry
  · have hb := chk_bad (x := ⟨t, d, room, entry⟩) (by simp only; omega)
    rw [hb]
    have HB := Lib.hid hb; clear hb
    go_enter Tryz.func52, Tryz.ntmps52
    go_wp2_with fail
    all_goals try (exfalso; omega)
    all_goals go_ret
    all_goals exact ⟨_, rfl, rfl, (Below.refl _ _).alloc (Nat.le_refl _) _⟩
  · have g1 : 1 ≤ (t.length : Int) := by omega
    have g2 : (t.length : Int) ≤ 448 := by omega
    have g3 : 0 ≤ room := by omega
    have g4 : (entry : Int) % 4 = 0 := by omega
    have g5 : (entry : Int) < 4 * t.length := by omega
    by_cases k1 : 1792 < d.length
    · have k1' : decide (1792 < (d.length : Int)) = true := by simp; omega
      rw [chk_bad (x := ⟨t, d, room, entry⟩) (by simp only; omega)]
      clear g
      go_enter Tryz.func52, Tryz.ntmps52
      go_wp2_with fail
      go_quiet (fail)
      go_wp2_with fail
      go_ret
      exact ⟨_, rfl, rfl, below_drewN ((Below.refl _ _).alloc (Nat.le_refl _) _) _⟩
    · have k1' : decide (1792 < (d.length : Int)) = false := by simp; omega
      by_cases k2 : 1792 < room
      · have k2' : decide (1792 < room) = true := by simp; omega
        rw [chk_bad (x := ⟨t, d, room, entry⟩) (by simp only; omega)]
        clear g
        go_enter Tryz.func52, Tryz.ntmps52
        go_wp2_with fail
        go_quiet (fail)
        go_wp2_with fail
        go_ret
        exact ⟨_, rfl, rfl, below_drewN ((Below.refl _ _).alloc (Nat.le_refl _) _) _⟩
      · have k2' : decide (1792 < room) = false := by simp; omega
        have e1 : IntKind.i64.wrap (4 * (t.length : Int)) = 4 * t.length := IntWalk.i64_in _ (by omega)
        have e2 : IntKind.i64.wrap ((d.length : Int) + room) = d.length + room := IntWalk.i64_in _ (by omega)
        have p1 : 0 ≤ 4 * (t.length : Int) := by omega
        have p2 : 4 * (t.length : Int) ≤ 9223372036854775000 := by omega
        have p3 : 0 ≤ (d.length : Int) + room := by omega
        have p4 : (d.length : Int) + room ≤ 9223372036854775000 := by omega
        have pb1 : Pl.pagesN (4 * t.length) ≤ 100 := by unfold Pl.pagesN; omega
        have pb2 : Pl.pagesN (d.length + room) ≤ 100 := by unfold Pl.pagesN; omega
        have pb3 : 0 ≤ Pl.pagesN (4 * t.length) := by unfold Pl.pagesN; omega
        have pb4 : 0 ≤ Pl.pagesN (d.length + room) := by unfold Pl.pagesN; omega
        have e3 : IntKind.i64.wrap (Pl.pagesN (4 * t.length) + Pl.pagesN (d.length + room)) = Pl.pagesN (4 * t.length) + Pl.pagesN (d.length + room) := IntWalk.i64_in _ (by omega)
        by_cases k3 : 14 < Pl.pagesN (4 * t.length) + Pl.pagesN (d.length + room)
        · have k3' : decide (14 < Pl.pagesN (4 * t.length) + Pl.pagesN (d.length + room)) = true := by simpa using k3
          rw [chk_bad (x := ⟨t, d, room, entry⟩) (by simp only; omega)]
          clear g
          go_enter Tryz.func52, Tryz.ntmps52
          go_wp2_with fail
          go_quiet ((go_at_call 91; (with_reducible refine quiet_ret (pages_any _ _ ?_ ?_)) <;> assumption))
          go_wp2_with fail
          go_ret
          exact ⟨_, rfl, rfl, below_drewN ((Below.refl _ _).alloc (Nat.le_refl _) _) _⟩
        · have k3' : decide (14 < Pl.pagesN (4 * t.length) + Pl.pagesN (d.length + room)) = false := by simpa using k3
          rw [chk_good (x := ⟨t, d, room, entry⟩) (by simp only; omega)]
          clear g
          go_enter Tryz.func52, Tryz.ntmps52
          go_wp2_with fail
          go_quiet ((go_at_call 91; (with_reducible refine quiet_ret (pages_any _ _ ?_ ?_)) <;> assumption))
          go_wp2_with fail
          go_ret
          exact ⟨_, rfl, rfl, below_drewN ((Below.refl _ _).alloc (Nat.le_refl _) _) _⟩

set_option maxRecDepth 100000 in
set_option maxHeartbeats 1000000 in
theorem rcheck_any (A : Option Addr) (c : Nat) (x : Pl.Exe) (w : World) (hx : ExeOk x) :
    Calls Tryz.prog 19 #[exeV A c x] w (RetB (fun v _ => v = .int .i64 (Pl.chk x : Int)) w) := by
  obtain ⟨t, d, room, entry⟩ := x
  obtain ⟨hn, hd, hr0, hr1, he⟩ := hx
  simp only at hn hd hr0 hr1 he
  unfold exeV
  simp only
  by_cases g : t.length < 1 ∨ 448 < t.length ∨ room < 0 ∨ 2048 < room ∨ 2048 < d.length ∨ entry % 4 ≠ 0 ∨ 4 * t.length ≤ entry
  · have hb := chk_bad (x := ⟨t, d, room, entry⟩) (by simp only; omega)
    rw [hb]
    have HB := Lib.hid hb; clear hb
    go_enter Tryz.func19, Tryz.ntmps19
    go_wp2_with fail
    all_goals try (exfalso; omega)
    all_goals go_ret
    all_goals exact ⟨_, rfl, rfl, (Below.refl _ _).alloc (Nat.le_refl _) _⟩
  · have g1 : 1 ≤ (t.length : Int) := by omega
    have g2 : (t.length : Int) ≤ 448 := by omega
    have g3 : 0 ≤ room := by omega
    have g4 : (entry : Int) % 4 = 0 := by omega
    have g5 : (entry : Int) < 4 * t.length := by omega
    have g6 : room ≤ 2048 := by omega
    have g7 : (d.length : Int) ≤ 2048 := by omega
    have e1 : IntKind.i64.wrap (4 * (t.length : Int)) = 4 * t.length := IntWalk.i64_in _ (by omega)
    have e2 : IntKind.i64.wrap ((d.length : Int) + room) = d.length + room := IntWalk.i64_in _ (by omega)
    have p1 : 0 ≤ 4 * (t.length : Int) := by omega
    have p2 : 4 * (t.length : Int) ≤ 9223372036854775000 := by omega
    have p3 : 0 ≤ (d.length : Int) + room := by omega
    have p4 : (d.length : Int) + room ≤ 9223372036854775000 := by omega
    have pb1 : Pl.pagesN (4 * t.length) ≤ 100 := by unfold Pl.pagesN; omega
    have pb2 : Pl.pagesN (d.length + room) ≤ 100 := by unfold Pl.pagesN; omega
    have pb3 : 0 ≤ Pl.pagesN (4 * t.length) := by unfold Pl.pagesN; omega
    have pb4 : 0 ≤ Pl.pagesN (d.length + room) := by unfold Pl.pagesN; omega
    have e3 : IntKind.i64.wrap (Pl.pagesN (4 * t.length) + Pl.pagesN (d.length + room)) = Pl.pagesN (4 * t.length) + Pl.pagesN (d.length + room) := IntWalk.i64_in _ (by omega)
    by_cases k3 : 14 < Pl.pagesN (4 * t.length) + Pl.pagesN (d.length + room)
    · have k3' : decide (14 < Pl.pagesN (4 * t.length) + Pl.pagesN (d.length + room)) = true := by simpa using k3
      rw [chk_bad (x := ⟨t, d, room, entry⟩) (by simp only; omega)]
      clear g
      go_enter Tryz.func19, Tryz.ntmps19
      go_wp2_with fail
      go_quiet ((go_at_call 51; (with_reducible refine quiet_ret (rpages_any _ _ ?_ ?_)) <;> assumption))
      go_wp2_with fail
      go_ret
      exact ⟨_, rfl, rfl, below_drewN ((Below.refl _ _).alloc (Nat.le_refl _) _) _⟩
    · have k3' : decide (14 < Pl.pagesN (4 * t.length) + Pl.pagesN (d.length + room)) = false := by simpa using k3
      have hgood := chk_good (x := ⟨t, d, room, entry⟩) (by
        simp only
        have hh : (4 * t.length : Int) ≥ 4 := by omega
        unfold Pl.pagesN at k3 ⊢
        omega)
      rw [hgood]
      clear g hgood
      go_enter Tryz.func19, Tryz.ntmps19
      go_wp2_with fail
      go_quiet ((go_at_call 51; (with_reducible refine quiet_ret (rpages_any _ _ ?_ ?_)) <;> assumption))
      go_wp2_with fail
      go_ret
      exact ⟨_, rfl, rfl, below_drewN ((Below.refl _ _).alloc (Nat.le_refl _) _) _⟩
end Go.Proofs.YtmmnkoeajdeldaaGreatDoor
namespace Go.Proofs.YtmmnkoeajdeldaaGreatDoor
open Go.RowKit
attribute [local go_sem] ba_get ba_add

set_option maxRecDepth 100000 in
set_option maxHeartbeats 1000000 in
theorem words_any (A : Option Addr) (n c : Nat) (t : List Nat) (w : World) (ha : Rd w 1 A n (u32s t)) (hn : n ≤ 1099511627776) (ht : ∀ x ∈ t, x < 4294967296) :
    Calls Tryz.prog 54 #[.slice A n c] w (RetB (fun v _ => v = .string ⟨(Pl.wordsB t).toArray⟩) w) := by
  have hl := ha.len1; rw [u32s_len] at hl
  have HF := Lib.hid (And.intro hl ht); clear hl ht
  go_enter Tryz.func54, Tryz.ntmps54
  go_wp2_with fail
  go_loopw [8] (fun i wr => ∃ (j : Nat) (b : List UInt8), j ≤ n ∧ i = .int .i64 j ∧ Bld w.heap.size w.heap.size b wr ∧ Below w.heap.size w wr ∧ b.length ≤ 4 * j ∧ Hid (Pl.wordsB (t.take j) = b)) (fun i _ => n - (intOf i).toNat)
  case atStart => exact ⟨0, [], Nat.zero_le _, rfl, bld_new _ _ (Nat.le_refl _), (Below.refl _ _).alloc (Nat.le_refl _) _, by simp, by simp [Hid, Pl.wordsB]⟩
  case round =>
    obtain ⟨j, b, hj, rfl, hB, hbw, hbl, H⟩ := hrel
    by_cases hlt : j < n
    · obtain ⟨b1, o1, rfl, -, hc1⟩ := (ha.below hbw).at1 hlt
      have hjl : j < t.length := by rw [HF.out.1]; exact hlt
      rw [u32s_get t j hjl] at hc1
      have hst := Pl.wordsB_take t j hjl
      have hx4 := HF.out.2 t[j] (List.getElem_mem hjl)
      rw [H.out] at hst
      obtain ⟨x, hx⟩ : ∃ x, t[j] = x := ⟨_, rfl⟩
      rw [hx] at hc1 hst hx4
      have HH := Lib.hid hst; clear hst hx hjl
      go_wp2_with fail
      (with_reducible refine (put_int _ ?_ 4 _).mono ?_)
      · omega
      rintro e w1 ⟨v, rfl, rfl, hb1⟩
      rw [show putK 4 = 4 from rfl, Int.toNat_natCast]
      have hpl : (Pl.putB x 4).length ≤ 4 := by rw [Pl.putB_len]; omega
      have hB1 := hB.below hb1
      have hbw1 := hbw.trans (hb1.mono hbw.size)
      go_wp2_with fail
      (with_reducible refine (bld_writeString w.heap.size w.heap.size b (Pl.putB x 4) _ hB1 (by omega) hbw1.size).mono ?_)
      rintro e w2 ⟨rfl, hB2, hb2, -⟩
      go_wp2_with fail
      go_roundw
      case rel => exact ⟨j + 1, _, by omega, by go_num, hB2, hbw1.trans hb2, by simp; omega, HH⟩
      case measure => simp [intOf]; omega
    · have h1 := H.out
      rw [List.take_of_length_le (by rw [HF.out.1]; omega)] at h1
      have HX := Lib.hid h1; clear h1
      go_wp2_with fail
      (with_reducible refine (bld_string w.heap.size w.heap.size b _ hB hbw.size).mono ?_)
      rintro e w2 ⟨rfl, hB2, hb2, -⟩
      go_wp2_with fail
      go_ret
      exact ⟨_, rfl, by rw [HX.out]; rfl, hbw.trans hb2⟩

end Go.Proofs.YtmmnkoeajdeldaaGreatDoor
namespace Go.Proofs.YtmmnkoeajdeldaaGreatDoor
open Go.RowKit
attribute [local go_sem] ba_get ba_add

/-- Four cells of a block. -/
def Box4 (w : World) (b : Nat) (v0 v1 v2 v3 : Value) : Prop := w.cell? ⟨b, 0, none⟩ = some v0 ∧ w.cell? ⟨b, 1, none⟩ = some v1 ∧ w.cell? ⟨b, 2, none⟩ = some v2 ∧ w.cell? ⟨b, 3, none⟩ = some v3
theorem Box4.keep {w w' : World} {b : Nat} {v0 v1 v2 v3 : Value} {B : Nat} (h : Box4 w b v0 v1 v2 v3) (hb : Below B w w') (hB : b < B) : Box4 w' b v0 v1 v2 v3 :=
  ⟨(hb.cell (p := ⟨b, 0, none⟩) hB).trans h.1, (hb.cell (p := ⟨b, 1, none⟩) hB).trans h.2.1, (hb.cell (p := ⟨b, 2, none⟩) hB).trans h.2.2.1, (hb.cell (p := ⟨b, 3, none⟩) hB).trans h.2.2.2⟩
theorem Box4.new (w : World) (v0 v1 v2 v3 : Value) (t : TypeId) : Box4 (w.alloc (.cells #[v0, v1, v2, v3] t)) w.heap.size v0 v1 v2 v3 := by
  unfold Box4; simp [go_sem]
/-- A builder's calls leave a block of another kind. -/
theorem Box4.kept {w w' : World} {b bb : Nat} {v0 v1 v2 v3 : Value} {cs : Array Value} {t : TypeId} (h : Box4 w b v0 v1 v2 v3) (hk : Kept bb w w') (hne : b ≠ bb) (hcs : w.heap[b]? = some (.cells cs t (0, 0))) (ht : t ≠ 5) : Box4 w' b v0 v1 v2 v3 := by
  have h1 : w'.heap[b]? = some (.cells cs t (0, 0)) := hk b _ hcs (by simpa using hne) (fun c fz he => by injection he with _ h2; exact ht h2)
  have e : ∀ i, w'.cell? ⟨b, i, none⟩ = w.cell? ⟨b, i, none⟩ := fun i => World.cell?_of_block (by rw [h1, hcs])
  exact ⟨(e 0).trans h.1, (e 1).trans h.2.1, (e 2).trans h.2.2.1, (e 3).trans h.2.2.2⟩

theorem chk_ok {x : Pl.Exe} (h : Pl.chk x = 0) : 1 ≤ x.text.length ∧ x.text.length ≤ 448 ∧ 0 ≤ x.room ∧ x.room ≤ 1792 ∧ x.data.length ≤ 1792 ∧ x.entry % 4 = 0 ∧ x.entry < 4 * x.text.length ∧ Pl.pagesN (4 * x.text.length) + Pl.pagesN (x.data.length + x.room) ≤ 14 := by
  have hb : Pl.chkB x = false := by
    cases hc : Pl.chkB x
    · rfl
    · simp [Pl.chk, hc] at h
  have := of_decide_eq_false hb
  omega

/-- The bytes of the first j of three numbers. -/
def nums (n d r : Nat) (j : Nat) : List UInt8 := if j = 0 then [] else if j = 1 then Pl.putB n 2 else if j = 2 then Pl.putB n 2 ++ Pl.putB d 2 else Pl.putB n 2 ++ (Pl.putB d 2 ++ Pl.putB r 2)
theorem nums_at (n d r j : Nat) (hj : j < 3) (hn : n ≤ 65535) (hd : d ≤ 65535) (hr : r ≤ 65535) : ∃ q : Nat, q ≤ 65535 ∧ (∀ W, (Instr.index 109 (.agg #[.int .i64 (n : Int), .int .i64 (d : Int), .int .i64 (r : Int)]) (.int .i64 (j : Int))).run Tryz.prog W = .ok (.int .i64 (q : Int)) W) ∧ nums n d r (j + 1) = nums n d r j ++ Pl.putB q 2 := by
  obtain rfl | rfl | rfl : j = 0 ∨ j = 1 ∨ j = 2 := by omega
  · exact ⟨n, hn, fun W => by kernel_rfl, by simp [nums]⟩
  · exact ⟨d, hd, fun W => by kernel_rfl, by simp [nums]⟩
  · exact ⟨r, hr, fun W => by kernel_rfl, by simp [nums]⟩
def bytesV (x : Pl.Exe) : Value := .tuple #[.string ⟨(if Pl.chk x = 0 then Pl.fileB x else []).toArray⟩, .int .i64 (Pl.chk x : Int)]

set_option maxRecDepth 100000 in
set_option maxHeartbeats 1000000 in
theorem bytes_any (A : Option Addr) (c : Nat) (x : Pl.Exe) (w : World) (hx : ExeOk x) (ha : Rd w 1 A x.text.length (u32s x.text)) (ht : ∀ y ∈ x.text, y < 4294967296) :
    Calls Tryz.prog 20 #[exeV A c x] w (RetB (fun v _ => v = bytesV x) w) := by
  obtain ⟨k, hk⟩ : ∃ k, Pl.chk x = k := ⟨_, rfl⟩
  have hk01 : k = 0 ∨ k = 1 := by rw [← hk]; unfold Pl.chk; split <;> simp
  have hck := fun (c : Nat) (w : World) => check_any A c x w hx
  have HX := Lib.hid (And.intro hk (And.intro hx hck)); clear hk hx hck
  obtain ⟨t, d, room, entry⟩ := x
  simp only at ha ht
  have hev : exeV A c ⟨t, d, room, entry⟩ = .agg #[.slice A t.length c, .string ⟨d.toArray⟩, .int .i64 room, .int .u32 (entry : Int)] := rfl
  rw [hev]
  have HE := Lib.hid hev; clear hev
  obtain ⟨n, hnl⟩ : ∃ n, t.length = n := ⟨_, rfl⟩
  rw [hnl] at ha ⊢
  have HF := Lib.hid (And.intro hnl ht); clear hnl ht
  rcases hk01 with rfl | rfl
  · obtain ⟨g1, g2, g3, g4, g5, g6, g7, g8⟩ := chk_ok HX.out.1
    simp only at g1 g2 g3 g4 g5 g6 g7
    rw [HF.out.1] at g1 g2 g7
    clear g8
    obtain ⟨r, rfl⟩ := Int.eq_ofNat_of_zero_le g3
    go_enter Tryz.func20, Tryz.ntmps20
    go_wp2_with fail
    have hck := HX.out.2.2 c (w.alloc (.cells #[.slice A n c, .string ⟨d.toArray⟩, .int .i64 r, .int .u32 (entry : Int)] 26))
    rw [HE.out, HF.out.1, HX.out.1] at hck
    (with_reducible refine hck.mono ?_)
    rintro e w1 ⟨v, rfl, rfl, hb1⟩
    clear hck
    have hbw1 : Below w.heap.size w w1 := ((Below.refl _ _).alloc (Nat.le_refl _) _).trans (hb1.mono (by simp))
    have hbox := (Box4.new w (.slice A n c) (.string ⟨d.toArray⟩) (.int .i64 r) (.int .u32 (entry : Int)) 26).keep hb1 (by simp)
    have hsz : w.heap.size < w1.heap.size := by have := hb1.size; simp at this; omega
    have ha1 := ha.below hbw1
    clear hb1
    have hB0 := bld_new w1.heap.size w1 (Nat.le_refl _)
    have hbB0 : Below w1.heap.size w1 (w1.alloc (.cells #[.pointer none, .slice none 0 0] 94)) := (Below.refl _ _).alloc (Nat.le_refl _) _
    go_wp2_with fail
    (with_reducible refine (bld_writeString w1.heap.size w1.heap.size [] [104, 105, 98, 120] _ hB0 (by simp) hbB0.size).mono ?_)
    rintro e w2 ⟨rfl, hB2, hb2, -⟩
    have hbB2 := hbB0.trans hb2
    clear hB0 hbB0 hb2
    obtain ⟨hc0, hc1, hc2, hc3⟩ := hbox.keep hbB2 hsz
    go_wp2_with fail
    (with_reducible refine (put_int _ ?_ 4 _).mono ?_)
    · omega
    rintro e w3 ⟨v, rfl, rfl, hb3⟩
    rw [show putK 4 = 4 from rfl, Int.toNat_natCast]
    clear hc0 hc1 hc2 hc3
    have hB3 := hB2.below hb3
    have hbB3 := hbB2.trans (hb3.mono hbB2.size)
    clear hB2 hbB2 hb3
    have hp4 : (Pl.putB entry 4).length ≤ 4 := by rw [Pl.putB_len]; omega
    go_wp2_with fail
    (with_reducible refine (bld_writeString w1.heap.size w1.heap.size _ (Pl.putB entry 4) _ hB3 (by simp; omega) hbB3.size).mono ?_)
    rintro e w4 ⟨rfl, hB4, hb4, -⟩
    have hbB4 := hbB3.trans hb4
    clear hB3 hbB3 hb4
    obtain ⟨hc0, hc1, hc2, hc3⟩ := hbox.keep hbB4 hsz
    go_wp2_with fail
    clear hc0 hc1 hc2 hc3
    go_loopw [28] (fun i wr => ∃ (j : Nat) (b : List UInt8), j ≤ 3 ∧ i = .int .i64 j ∧ Bld w1.heap.size w1.heap.size b wr ∧ Below w1.heap.size w1 wr ∧ b.length ≤ 8 + 2 * j ∧ Hid (b = [104, 105, 98, 120] ++ (Pl.putB entry 4 ++ nums n d.length r j))) (fun i _ => 3 - (intOf i).toNat)
    case atStart => exact ⟨0, _, by omega, rfl, hB4, hbB4, by simp; omega, by simp [Hid, nums]⟩
    case round =>
      clear hB4 hbB4
      obtain ⟨j, b, hj, rfl, hB, hbB, hbl, H⟩ := hrel
      by_cases hlt : j < 3
      · obtain ⟨q, hq, hqx, hqn⟩ := nums_at n d.length r j hlt (by omega) (by omega) (by omega)
        have hix : ∀ W, (Instr.index 109 (.agg #[.int .i64 (n : Int), .int .i64 (d.length : Int), .int .i64 (r : Int)]) (.int .i64 (j : Int))).run Tryz.prog W = .ok (.int .i64 (q : Int)) W := hqx
        have HQ := Lib.hid hqn; clear hqn hqx
        go_wp2_with fail
        (with_reducible refine (put_int _ ?_ 2 _).mono ?_)
        · omega
        rintro e w5 ⟨v, rfl, rfl, hb5⟩
        rw [show putK 2 = 2 from rfl, Int.toNat_natCast]
        have hB5 := hB.below hb5
        have hbB5 := hbB.trans (hb5.mono hbB.size)
        have hp2 : (Pl.putB q 2).length ≤ 2 := by rw [Pl.putB_len]; omega
        go_wp2_with fail
        (with_reducible refine (bld_writeString w1.heap.size w1.heap.size b (Pl.putB q 2) _ hB5 (by omega) hbB5.size).mono ?_)
        rintro e w6 ⟨rfl, hB6, hb6, -⟩
        go_wp2_with fail
        go_roundw
        case rel =>
          refine ⟨j + 1, _, by omega, by go_num, hB6, hbB5.trans hb6, by simp; omega, ?_⟩
          show _ = _
          rw [H.out, HQ.out]; simp
        case measure => simp [intOf]; omega
      · have hj3 : j = 3 := by omega
        have hb3 := H.out
        rw [hj3] at hb3
        have HB3 := Lib.hid hb3; clear hb3 hj3
        obtain ⟨hc0, hc1, hc2, hc3⟩ := hbox.keep hbB hsz
        go_wp2_with fail
        (with_reducible refine (words_any A n c t _ (ha1.below hbB) (by omega) HF.out.2).mono ?_)
        rintro e w5 ⟨v, rfl, rfl, hb5⟩
        clear hc0 hc1 hc2 hc3
        have hB5 := hB.below hb5
        have hbB5 := hbB.trans (hb5.mono hbB.size)
        have hwl : (Pl.wordsB t).length ≤ 4 * n := by rw [Pl.wordsB_len, HF.out.1]; omega
        go_wp2_with fail
        (with_reducible refine (bld_writeString w1.heap.size w1.heap.size b (Pl.wordsB t) _ hB5 (by omega) hbB5.size).mono ?_)
        rintro e w6 ⟨rfl, hB6, hb6, -⟩
        have hbB6 := hbB5.trans hb6
        obtain ⟨hc0, hc1, hc2, hc3⟩ := hbox.keep hbB6 hsz
        go_wp2_with fail
        (with_reducible refine (bld_writeString w1.heap.size w1.heap.size _ d _ hB6 (by simp; omega) hbB6.size).mono ?_)
        rintro e w7 ⟨rfl, hB7, hb7, -⟩
        have hbB7 := hbB6.trans hb7
        clear hc0 hc1 hc2 hc3
        go_wp2_with fail
        (with_reducible refine (bld_string w1.heap.size w1.heap.size _ _ hB7 hbB7.size).mono ?_)
        rintro e w8 ⟨rfl, hB8, hb8, -⟩
        go_wp2_with fail
        go_ret2
        refine ⟨_, rfl, ?_, hbw1.trans ((hbB7.trans hb8).mono hbw1.size)⟩
        unfold bytesV
        rw [HX.out.1, if_pos rfl]
        show Value.tuple #[Value.string _, _] = _
        congr 4
        rw [HB3.out]
        unfold Pl.fileB
        simp only
        rw [HF.out.1]
        simp [nums, List.append_assoc]
  · go_enter Tryz.func20, Tryz.ntmps20
    go_wp2_with fail
    have hck := HX.out.2.2 c (w.alloc (.cells #[.slice A n c, .string ⟨d.toArray⟩, .int .i64 room, .int .u32 (entry : Int)] 26))
    rw [HE.out, HF.out.1, HX.out.1] at hck
    (with_reducible refine hck.mono ?_)
    rintro e w1 ⟨v, rfl, rfl, hb1⟩
    clear hck
    go_wp2_with fail
    go_ret2
    refine ⟨_, rfl, ?_, ((Below.refl _ _).alloc (Nat.le_refl _) _).trans (hb1.mono (by simp))⟩
    unfold bytesV
    rw [HX.out.1]
    rfl
end Go.Proofs.YtmmnkoeajdeldaaGreatDoor
namespace Go.Proofs.YtmmnkoeajdeldaaGreatDoor.Pl

/-- A page: its number, its bytes, whether it may be written. -/
structure Lay where
  at_ : Int
  data : List UInt8
  write : Bool

def zs (n : Nat) : List UInt8 := List.replicate n 0
theorem zs_len (n : Nat) : (zs n).length = n := by simp [zs]
/-- Bytes, filled up to a page. -/
def padP (s : List UInt8) : List UInt8 := s ++ zs (128 - s.length)
/-- So many pages of bytes, behind those that are there. -/
def spread : Nat → List Lay → List UInt8 → Bool → List Lay
  | 0, L, _, _ => L
  | k + 1, L, s, b => spread k (L ++ [⟨L.length, padP (s.take 128), b⟩]) (s.drop 128) b
/-- How many pages so many bytes need. -/
def pgs (n : Nat) : Nat := (n + 127) / 128
theorem pgs_int (n : Nat) : pagesN (n : Int) = ((pgs n : Nat) : Int) := by unfold pagesN pgs; omega
/-- The pages that a program begins with. -/
def lays (x : Exe) : List Lay := spread (pgs (x.data.length + x.room.toNat)) (spread (pgs (4 * x.text.length)) [] (wordsB x.text) false) x.data true ++ [⟨15, zs 128, true⟩]

theorem padP_len (s : List UInt8) (h : s.length ≤ 128) : (padP s).length = 128 := by simp [padP, zs]; omega
theorem spread_len : ∀ (k : Nat) (L : List Lay) (s : List UInt8) (b : Bool), (spread k L s b).length = L.length + k
  | 0, L, _, _ => rfl
  | k + 1, L, s, b => by rw [spread, spread_len k]; simp; omega
/-- Page i of bytes. -/
def pageAt (s : List UInt8) (i : Nat) : List UInt8 := padP ((s.drop (128 * i)).take 128)
theorem spread_eq : ∀ (k : Nat) (L : List Lay) (s : List UInt8) (b : Bool), spread k L s b = L ++ (List.range k).map fun i => ⟨((L.length + i : Nat) : Int), pageAt s i, b⟩
  | 0, L, s, b => by simp [spread]
  | k + 1, L, s, b => by
    rw [spread, spread_eq k, List.range_succ_eq_map, List.append_assoc]
    congr 1
    simp only [List.map_cons, List.map_map, List.cons_append, List.nil_append]
    congr 1
    apply List.map_congr_left
    intro i _
    simp only [Function.comp, List.length_append, List.length_cons, List.length_nil]
    congr 1
    · congr 1; omega
    · unfold pageAt; rw [List.drop_drop]; congr 3; omega
theorem zs_add (a b : Nat) : zs a ++ zs b = zs (a + b) := by simp [zs]
theorem pad_page (s : List UInt8) (m i : Nat) (hs : s.length ≤ m) (hi : 128 * i + 128 ≤ m) : ((s ++ zs (m - s.length)).drop (128 * i)).take 128 = pageAt s i := by
  unfold pageAt padP
  rw [List.drop_append, List.take_append]
  congr 1
  simp only [zs, List.drop_replicate, List.take_replicate, List.length_take, List.length_drop]
  congr 1
  omega
/-- The reference's pages of bytes, from a number on. -/
def rlay (L : List Lay) (at_ : Nat) (b : List UInt8) (wr : Bool) : List Lay := L ++ (List.range (pgs b.length)).map fun i => ⟨((at_ + i : Nat) : Int), pageAt b i, wr⟩
/-- The same, up to page j. -/
def rlayTo (L : List Lay) (at_ : Nat) (b : List UInt8) (wr : Bool) (j : Nat) : List Lay := L ++ (List.range j).map fun i => ⟨((at_ + i : Nat) : Int), pageAt b i, wr⟩
theorem rlayTo_len (L : List Lay) (at_ : Nat) (b : List UInt8) (wr : Bool) (j : Nat) : (rlayTo L at_ b wr j).length = L.length + j := by simp [rlayTo]
theorem rlayTo_succ (L : List Lay) (at_ : Nat) (b : List UInt8) (wr : Bool) (j : Nat) : rlayTo L at_ b wr (j + 1) = rlayTo L at_ b wr j ++ [⟨((at_ + j : Nat) : Int), pageAt b j, wr⟩] := by simp [rlayTo, List.range_succ]
theorem rlay_text (L : List Lay) (b : List UInt8) (wr : Bool) : rlay L L.length b wr = spread (pgs b.length) L b wr := by rw [spread_eq]; rfl
theorem pageAt_zeros (s : List UInt8) (r i : Nat) (h : 128 * i + 128 ≤ 128 * pgs (s.length + r)) : pageAt (s ++ zs r) i = pageAt s i := by
  have hm : s.length + r ≤ 128 * pgs (s.length + r) := by unfold pgs; omega
  rw [← pad_page (s ++ zs r) (128 * pgs (s.length + r)) i (by simp [zs_len]; omega) h, ← pad_page s (128 * pgs (s.length + r)) i (by omega) h, List.append_assoc, zs_add]
  congr 4
  simp [zs_len]; omega
theorem rlay_data (L : List Lay) (s : List UInt8) (r : Nat) (wr : Bool) : rlay L L.length (s ++ zs r) wr = spread (pgs (s.length + r)) L s wr := by
  rw [spread_eq, rlay]
  have hl : (s ++ zs r).length = s.length + r := by simp [zs_len]
  rw [hl]
  congr 1
  apply List.map_congr_left
  intro i hi
  rw [pageAt_zeros s r i (by have := List.mem_range.1 hi; omega)]
end Go.Proofs.YtmmnkoeajdeldaaGreatDoor.Pl
