/- The walk of exe.Of. -/
import Derived.Test.YtplhmhclcfclhaaOfW1
namespace Go.Proofs.Ytplhmhclcfclhaa
open Go.RowKit
set_option linter.unusedVariables false
attribute [local go_sem] ba_get ba_cut ba_add

/-- What Of gives. -/
def OfOut (b : List UInt8) (v : Value) (w : World) : Prop := ∃ A c, v = .tuple #[exeV A c (Pl.ofX b), .int .i64 (Pl.ofE b : Int)] ∧ Rd w 1 A (Pl.ofX b).text.length (u32s (Pl.ofX b).text)
theorem ofOut_no {b : List UInt8} {k : Nat} (h : Pl.ofE b = k) (hk : k ≠ 0) (w : World) : OfOut b (.tuple #[.agg #[.slice none 0 0, .string ⟨#[]⟩, .int .i64 0, .int .u32 0], .int .i64 (k : Int)]) w := by
  refine ⟨none, 0, ?_, ?_⟩
  · unfold Pl.ofX; rw [h, if_neg hk]; rfl
  · unfold Pl.ofX; rw [h, if_neg hk]; exact Rd.zero

set_option maxRecDepth 100000 in
set_option maxHeartbeats 1000000 in
theorem of_bad (b : List UInt8) (w : World) (hb : b.length ≤ 140737488355328) (hbad : Pl.headBad b = true ∨ b.length < 14 ∨ b.length ≠ 14 + 4 * Pl.fieldN b 8 2 + Pl.fieldN b 10 2) :
    Calls Try.prog 33 #[.string ⟨b.toArray⟩] w (RetB (OfOut b) w) := by
  obtain ⟨m, hm⟩ : ∃ m, min b.length 4 = m := ⟨_, rfl⟩
  have hm4 : m ≤ 4 := by omega
  have hmb : m ≤ b.length := by omega
  have hmi : min (b.length : Int) 4 = (m : Int) := by omega
  obtain ⟨r, hr⟩ : ∃ r, (b.take m == ([104, 105, 98, 120] : List UInt8).take m) = r := ⟨_, rfl⟩
  have hhb : Pl.headBad b = !r := by unfold Pl.headBad Pl.magicB; rw [hm, ← hr, Bool.eq_iff_iff]; simp
  cases r
  · have hE : Pl.ofE b = 3 := by unfold Pl.ofE; rw [hhb]; rfl
    have HE := Lib.hid (And.intro hE hm); clear hE hm hhb
    go_enter Try.func33, Try.ntmps33
    go_wp2_with fail
    go_quiet (fail)
    go_wp2_with fail
    refine bodyPost_ret (v := .tuple #[.agg #[.slice none 0 0, .string ⟨#[]⟩, .int .i64 0, .int .u32 0], .int .i64 3]) (by simp [results, Try.results33, go_sem]) rfl ?_
    refine ⟨_, rfl, ofOut_no HE.out.1 (by decide) _, ?_⟩
    exact (((((below_drewN (((Below.refl _ _).alloc (Nat.le_refl _) _).alloc (by simp) _) _).setCell (by simp) _).setCell (by simp) _).setCell (by simp) _).setCell (by simp) _)
  have hf8 := Pl.fieldN_2 b 8
  have hf10 := Pl.fieldN_2 b 10
  have hf12 := Pl.fieldN_2 b 12
  have hf4 := Pl.fieldN_4 b 4
  by_cases h14 : b.length < 14
  · have hE : Pl.ofE b = 4 := by unfold Pl.ofE; rw [hhb]; simp [h14]
    have HE := Lib.hid (And.intro hE hm); clear hE hm hhb
    have h14' : decide ((b.length : Int) < 14) = true := decide_eq_true (by omega)
    go_enter Try.func33, Try.ntmps33
    go_wp2_with fail
    go_quiet (fail)
    go_wp2_with fail
    refine bodyPost_ret (v := .tuple #[.agg #[.slice none 0 0, .string ⟨#[]⟩, .int .i64 0, .int .u32 0], .int .i64 4]) (by simp [results, Try.results33, go_sem]) rfl ?_
    refine ⟨_, rfl, ofOut_no HE.out.1 (by decide) _, ?_⟩
    exact (((((below_drewN (((Below.refl _ _).alloc (Nat.le_refl _) _).alloc (by simp) _) _).setCell (by simp) _).setCell (by simp) _).setCell (by simp) _).setCell (by simp) _)
  have h14' : decide ((b.length : Int) < 14) = false := decide_eq_false (by omega)
  have hfa := fun (B a s : Nat) (ia iz : Int) (h1 : ia = a) (h2 : iz = s) (w : World) => field_int B b a s ia iz h1 h2 w
  have HF := Lib.hid hfa; clear hfa
  obtain ⟨k, hk⟩ : ∃ k, Pl.fieldN b 8 2 = k := ⟨_, rfl⟩
  obtain ⟨z, hz⟩ : ∃ z, Pl.fieldN b 10 2 = z := ⟨_, rfl⟩
  obtain ⟨rm, hrm⟩ : ∃ z, Pl.fieldN b 12 2 = z := ⟨_, rfl⟩
  obtain ⟨en, hen⟩ : ∃ z, Pl.fieldN b 4 4 = z := ⟨_, rfl⟩
  have hEq : Pl.ofE b = if b.length < 14 + 4 * k + z then 4 else if 14 + 4 * k + z < b.length then 3 else if Pl.chk (Pl.bodyE b) = 0 then 0 else 3 := by
    unfold Pl.ofE; rw [hhb, hk, hz]; simp [h14]
  rw [hk] at hf8
  rw [hz] at hf10
  rw [hrm] at hf12
  rw [hen] at hf4
  have HK := Lib.hid (And.intro hk (And.intro hz (And.intro hrm (And.intro hen (And.intro hEq (And.intro hm hhb)))))); clear hk hz hrm hen hEq hm hhb
  have e1 : IntKind.i64.wrap (4 * (k : Int)) = 4 * (k : Int) := IntWalk.i64_in _ (by omega)
  have e2 : IntKind.i64.wrap (14 + 4 * (k : Int)) = 14 + 4 * (k : Int) := IntWalk.i64_in _ (by omega)
  have e3 : IntKind.i64.wrap (14 + 4 * (k : Int) + (z : Int)) = 14 + 4 * (k : Int) + (z : Int) := IntWalk.i64_in _ (by omega)
  by_cases hlo : b.length < 14 + 4 * k + z
  · have hE : Pl.ofE b = 4 := by rw [HK.out.2.2.2.2.1, if_pos hlo]
    have HE := Lib.hid hE; clear hE
    have hlo' : decide ((b.length : Int) < 14 + 4 * (k : Int) + (z : Int)) = true := decide_eq_true (by omega)
    go_enter Try.func33, Try.ntmps33
    go_wp2_with fail
    go_quiet (fail)
    go_wp2_with fail
    (with_reducible refine (HF.out w.heap.size 8 2 8 2 rfl rfl _ ?_ (by omega) (by omega) (by omega)).mono ?_)
    · simp [go_sem]
    rintro e w1 ⟨rfl, rfl⟩
    rw [HK.out.1]
    go_wp2_with fail
    (with_reducible refine (HF.out w.heap.size 10 2 10 2 rfl rfl _ ?_ (by omega) (by omega) (by omega)).mono ?_)
    · simp [go_sem]
    rintro e w1 ⟨rfl, rfl⟩
    rw [HK.out.2.1]
    go_wp2_with fail
    refine bodyPost_ret (v := .tuple #[.agg #[.slice none 0 0, .string ⟨#[]⟩, .int .i64 0, .int .u32 0], .int .i64 4]) (by simp [results, Try.results33, go_sem]) rfl ?_
    refine ⟨_, rfl, ofOut_no HE.out (by decide) _, ?_⟩
    exact (((((below_drewN (((Below.refl _ _).alloc (Nat.le_refl _) _).alloc (by simp) _) _).setCell (by simp) _).setCell (by simp) _).setCell (by simp) _).setCell (by simp) _)
  have hlo' : decide ((b.length : Int) < 14 + 4 * (k : Int) + (z : Int)) = false := decide_eq_false (by omega)
  by_cases hhi : 14 + 4 * k + z < b.length
  · have hE : Pl.ofE b = 3 := by rw [HK.out.2.2.2.2.1, if_neg hlo, if_pos hhi]
    have HE := Lib.hid hE; clear hE
    have hhi' : decide (14 + 4 * (k : Int) + (z : Int) < (b.length : Int)) = true := decide_eq_true (by omega)
    go_enter Try.func33, Try.ntmps33
    go_wp2_with fail
    go_quiet (fail)
    go_wp2_with fail
    (with_reducible refine (HF.out w.heap.size 8 2 8 2 rfl rfl _ ?_ (by omega) (by omega) (by omega)).mono ?_)
    · simp [go_sem]
    rintro e w1 ⟨rfl, rfl⟩
    rw [HK.out.1]
    go_wp2_with fail
    (with_reducible refine (HF.out w.heap.size 10 2 10 2 rfl rfl _ ?_ (by omega) (by omega) (by omega)).mono ?_)
    · simp [go_sem]
    rintro e w1 ⟨rfl, rfl⟩
    rw [HK.out.2.1]
    go_wp2_with fail
    refine bodyPost_ret (v := .tuple #[.agg #[.slice none 0 0, .string ⟨#[]⟩, .int .i64 0, .int .u32 0], .int .i64 3]) (by simp [results, Try.results33, go_sem]) rfl ?_
    refine ⟨_, rfl, ofOut_no HE.out (by decide) _, ?_⟩
    exact (((((below_drewN (((Below.refl _ _).alloc (Nat.le_refl _) _).alloc (by simp) _) _).setCell (by simp) _).setCell (by simp) _).setCell (by simp) _).setCell (by simp) _)
  rw [HK.out.1, HK.out.2.1, HK.out.2.2.2.2.2.2] at hbad
  exfalso
  rcases hbad with h | h | h
  · cases h
  · omega
  · omega
end Go.Proofs.Ytplhmhclcfclhaa
