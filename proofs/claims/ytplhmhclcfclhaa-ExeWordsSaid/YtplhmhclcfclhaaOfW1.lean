/- The walks of ref12.Same at one program twice, and of the field's function of exe.Of. -/
import Derived.Test.YtplhmhclcfclhaaOfPlain
import Derived.Test.YtplhmhclcfclhaaExePages
namespace Go.Proofs.Ytplhmhclcfclhaa
open Go.RowKit
set_option linter.unusedVariables false
attribute [local go_sem] ba_get ba_cut ba_add

set_option maxRecDepth 100000 in
set_option maxHeartbeats 1000000 in
theorem same_eq (A A' : Option Addr) (c c' : Nat) (x : Pl.Exe) (w : World) (hx : ExeOk x) (ha : Rd w 1 A x.text.length (u32s x.text)) (hb : Rd w 1 A' x.text.length (u32s x.text)) :
    Calls Try.prog 34 #[exeV A c x, exeV A' c' x] w (RetB (fun v _ => v = .bool true) w) := by
  have hnn := hx.n
  clear hx
  obtain ⟨t, d, room, entry⟩ := x
  have hu := fun i h => u32s_get t i h
  simp only at ha hb hnn
  unfold exeV
  simp only
  obtain ⟨n, hn⟩ : ∃ n, t.length = n := ⟨_, rfl⟩
  rw [hn] at ha hb hnn ⊢
  have HU := Lib.hid (And.intro hu hn); clear hu hn
  go_enter Try.func34, Try.ntmps34
  go_wp2_with fail
  obtain ⟨W, hW⟩ : ∃ W, W = (w.alloc (.cells #[.slice A n c, .string ⟨d.toArray⟩, .int .i64 room, .int .u32 (entry : Int)] 43)).alloc (.cells #[.slice A' n c', .string ⟨d.toArray⟩, .int .i64 room, .int .u32 (entry : Int)] 43) := ⟨_, rfl⟩
  have hbw : Below w.heap.size w W := by rw [hW]; exact ((Below.refl _ _).alloc (Nat.le_refl _) _).alloc (by simp) _
  have haW := ha.below hbw
  have hbW := hb.below hbw
  have hc0 : W.cell? ⟨w.heap.size, 0, none⟩ = some (.slice A n c) := by rw [hW]; simp [go_sem]
  have hc1 : W.cell? ⟨w.heap.size + 1, 0, none⟩ = some (.slice A' n c') := by rw [hW]; simp [go_sem]
  rw [← hW]
  clear hW ha hb
  go_loopw [37] (fun i wr => ∃ (j q : Nat), j ≤ n ∧ i = .int .i64 j ∧ wr = W.drewN q) (fun i _ => n - (intOf i).toNat)
  case atStart => exact ⟨0, 0, by omega, rfl, rfl⟩
  case round =>
    obtain ⟨j, q, hj, rfl, rfl⟩ := hrel
    by_cases hlt : j < n
    · obtain ⟨b, o, rfl, -, pc⟩ := haW.at1 hlt
      obtain ⟨b', o', rfl, -, pc'⟩ := hbW.at1 hlt
      rw [HU.out.1 j (by rw [HU.out.2]; exact hlt)] at pc pc'
      obtain ⟨y, hy⟩ : ∃ y : Nat, t[j]'(by rw [HU.out.2]; exact hlt) = y := ⟨_, rfl⟩
      rw [hy] at pc pc'
      clear hy
      go_wp2_with fail
      go_quiet (fail)
      go_wp2_with fail
      go_roundw
      case rel => exact ⟨j + 1, _, by omega, by go_num, rfl⟩
      case measure => simp [intOf]; omega
    · go_wp2_with fail
      go_ret
      exact ⟨_, rfl, rfl, below_drewN hbw _⟩

/-- The field's function: the variable b lies in block B. -/
theorem field_any (B : Nat) (l : List UInt8) (a s : Nat) (w : World) (hc : w.cell? ⟨B, 0, none⟩ = some (.string ⟨l.toArray⟩)) (hl : l.length ≤ 9223372036854775807) (hs : s ≤ 4) (ha : a + s ≤ l.length) :
    Calls Try.prog 53 #[.int .i64 (a : Int), .int .i64 (s : Int), .pointer (some ⟨B, 0, none⟩)] w (Ret (.int .i64 (Pl.fieldN l a s : Int)) w) := by
  have hg : ∀ w, Calls Try.prog 23 #[.string ⟨((l.drop a).take s).toArray⟩] w (Ret (.int .u64 (Pl.fieldN l a s : Int)) w) := by
    intro w
    have := get_any ((l.drop a).take s) (by rw [List.length_take]; omega) w
    rw [List.take_take, Nat.min_eq_right (by omega)] at this
    exact this
  have hf := Pl.fieldN_lt l a s
  have hf4 : (256 : Nat) ^ s ≤ 256 ^ 4 := Nat.pow_le_pow_right (by omega) hs
  have hfl : Pl.fieldN l a s < 4294967296 := by omega
  clear hf hf4
  obtain ⟨v, hv⟩ : ∃ v, Pl.fieldN l a s = v := ⟨_, rfl⟩
  rw [hv] at hg hfl ⊢
  clear hv
  have hs1 : IntKind.i64.wrap ((a : Int) + (s : Int)) = (a : Int) + (s : Int) := IntWalk.i64_in _ (by omega)
  have hs2 : ((a : Int) + (s : Int)).toNat = a + s := by omega
  have hs3 : (a : Int) + (s : Int) ≤ (l.length : Int) := by omega
  have hs4 : (a : Int) ≤ (a : Int) + (s : Int) := by omega
  have hs5 : a + s - a = s := by omega
  have hs6 : (0 : Int) ≤ (a : Int) + (s : Int) := by omega
  have hs7 : IntKind.i64.wrap (v : Int) = v := IntWalk.i64_in _ (by omega)
  have HG := Lib.hid hg; clear hg
  go_enter Try.func53, Try.ntmps53
  go_wp2_with fail
  (with_reducible refine (HG.out _).mono ?_)
  rintro e w1 ⟨rfl, rfl⟩
  go_wp2_with fail
  go_ret
  exact ⟨rfl, rfl⟩
theorem field_int (B : Nat) (l : List UInt8) (a s : Nat) (ia iz : Int) (h1 : ia = a) (h2 : iz = s) (w : World) (hc : w.cell? ⟨B, 0, none⟩ = some (.string ⟨l.toArray⟩)) (hl : l.length ≤ 9223372036854775807) (hs : s ≤ 4) (ha : a + s ≤ l.length) :
    Calls Try.prog 53 #[.int .i64 ia, .int .i64 iz, .pointer (some ⟨B, 0, none⟩)] w (Ret (.int .i64 (Pl.fieldN l a s : Int)) w) := by
  subst h1 h2; exact field_any B l a s w hc hl hs ha
end Go.Proofs.Ytplhmhclcfclhaa
