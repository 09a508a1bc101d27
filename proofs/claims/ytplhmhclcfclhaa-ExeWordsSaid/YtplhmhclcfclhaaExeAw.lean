/- The walks of the statements' awake and great. -/
import Derived.Test.YtplhmhclcfclhaaLayW2
namespace Go.Proofs.Ytplhmhclcfclhaa
open Go.RowKit
attribute [local go_sem] ba_get ba_add

def exe7 : Pl.Exe := ⟨[7], [], 0, 0⟩
theorem exe7_chk : Pl.chk exe7 = 0 := by decide +kernel
theorem exe7_file : (Pl.fileB exe7).length = 18 := by decide +kernel
theorem exe7_lays : Pl.lays exe7 = [⟨0, Pl.padP (Pl.putB 7 4), false⟩, ⟨15, Pl.zs 128, true⟩] := by
  have e : (List.take 128 (Pl.wordsB [7])) = Pl.putB 7 4 := by decide +kernel
  show [(⟨((0 : Nat) : Int), Pl.padP (List.take 128 (Pl.wordsB [7])), false⟩ : Pl.Lay)] ++ [_] = _
  rw [e]; rfl
theorem exe7_v (A : Option Addr) (c : Nat) : exeV A c exe7 = .agg #[.slice A 1 c, .string ⟨#[]⟩, .int .i64 0, .int .u32 0] := rfl
theorem exe7_ok : ExeOk exe7 := ⟨by decide, by decide, by decide, by decide, by decide⟩

set_option maxRecDepth 100000 in
set_option maxHeartbeats 1000000 in
theorem awake_any (w : World) : Calls Try.prog 26 #[] w (RetB (fun v _ => v = .bool true) w) := by
  obtain ⟨fb, hfb⟩ : ∃ fb, Pl.fileB exe7 = fb := ⟨_, rfl⟩
  have hfl : fb.length = 18 := by rw [← hfb]; exact exe7_file
  have hbv : bytesV exe7 = .tuple #[.string ⟨fb.toArray⟩, .int .i64 0] := by unfold bytesV; rw [exe7_chk, if_pos rfl, hfb]; rfl
  have hfi : ((fb.length : Int) == 18) = true := by rw [hfl]; rfl
  have HB := Lib.hid (And.intro hbv hfl); clear hbv hfl hfb
  go_enter Try.func26, Try.ntmps26
  go_wp2_with fail
  obtain ⟨W2, hW2⟩ : ∃ W2, W2 = (w.alloc (.cells #[.int .u32 7] 41)).alloc (.cells #[.slice (some ⟨w.heap.size, 0, none⟩) 1 1, .string ⟨#[]⟩, .int .i64 0, .int .u32 0] 43) := ⟨_, rfl⟩
  have hrd : Rd W2 1 (some ⟨w.heap.size, 0, none⟩) 1 (u32s [7]) := by
    rw [hW2]; exact (Rd.new w [.int .u32 7] 41).alloc _
  have hbx : Box4 W2 (w.heap.size + 1) (.slice (some ⟨w.heap.size, 0, none⟩) 1 1) (.string ⟨#[]⟩) (.int .i64 0) (.int .u32 0) := by
    rw [hW2]
    have := Box4.new (w.alloc (.cells #[.int .u32 7] 41)) (.slice (some ⟨w.heap.size, 0, none⟩) 1 1) (.string ⟨#[]⟩) (.int .i64 0) (.int .u32 0) 43
    simpa using this
  have hb2 : Below w.heap.size w W2 := by rw [hW2]; exact ((Below.refl _ _).alloc (Nat.le_refl _) _).alloc (by simp) _
  have hs2 : w.heap.size + 1 < W2.heap.size := by rw [hW2]; simp
  rw [← hW2]
  clear hW2
  have hbc := bytes_any (some ⟨w.heap.size, 0, none⟩) 1 exe7 W2 exe7_ok hrd (by decide)
  rw [HB.out.1, exe7_v] at hbc
  (with_reducible refine Calls.mono hbc ?_)
  rintro e w3 ⟨v, rfl, rfl, hb3⟩
  clear hbc
  obtain ⟨hc0, hc1, hc2, hc3⟩ := hbx.keep hb3 hs2
  go_wp2_with fail
  have hlc := lay_any (some ⟨w.heap.size, 0, none⟩) 1 exe7 w3 exe7_ok (hrd.below hb3) (by decide)
  rw [exe7_v] at hlc
  (with_reducible refine Calls.mono hlc ?_)
  rintro e w4 ⟨v, rfl, ⟨A4, c4, hv, hr4⟩, hb4⟩
  clear hlc hc0 hc1 hc2 hc3
  simp only [exe7_chk, if_true, exe7_lays] at hv hr4
  subst hv
  obtain ⟨b, off, rfl, hlt, hc⟩ := hr4.all (by simp)
  have hd0 : w4.cell? ⟨b, off, none⟩ = some (.int .i64 0) := hc 0 (by simp [layCs, layC])
  have hd3 : w4.cell? ⟨b, off + 3, none⟩ = some (.int .i64 15) := hc 3 (by simp [layCs, layC])
  clear hc hr4
  have hbf : Below w.heap.size w w4 := (hb2.trans (hb3.mono hb2.size)).trans (hb4.mono (hb2.trans (hb3.mono hb2.size)).size)
  go_wp2_with fail
  go_ret
  exact ⟨_, rfl, rfl, hbf⟩

/-- More than is gone through? -/
def great (x : Pl.Exe) : Bool := decide (600 < x.text.length ∨ 3000 < x.data.length)
set_option maxRecDepth 100000 in
theorem great_any (A : Option Addr) (c : Nat) (x : Pl.Exe) (w : World) (hn : x.text.length ≤ 140737488355328) :
    Calls Try.prog 25 #[exeV A c x] w (RetB (fun v _ => v = .bool (great x)) w) := by
  obtain ⟨g, hg⟩ : ∃ g, great x = g := ⟨_, rfl⟩
  rw [hg]
  obtain ⟨t, d, room, entry⟩ := x
  unfold great at hg
  unfold exeV
  simp only at hg hn ⊢
  have HG := Lib.hid hg; clear hg
  by_cases h1 : 600 < t.length
  · have e : g = true := by rw [← HG.out]; exact decide_eq_true (.inl h1)
    subst e
    go_enter Try.func25, Try.ntmps25
    go_wp2_with fail
    go_ret
    exact ⟨_, rfl, rfl, (Below.refl _ _).alloc (Nat.le_refl _) _⟩
  · by_cases h2 : 3000 < d.length
    · have e : g = true := by rw [← HG.out]; exact decide_eq_true (.inr h2)
      subst e
      go_enter Try.func25, Try.ntmps25
      go_wp2_with fail
      go_ret
      refine ⟨_, rfl, ?_, (Below.refl _ _).alloc (Nat.le_refl _) _⟩
      simp; omega
    · have e : g = false := by rw [← HG.out]; exact decide_eq_false (by omega)
      subst e
      go_enter Try.func25, Try.ntmps25
      go_wp2_with fail
      go_ret
      refine ⟨_, rfl, ?_, (Below.refl _ _).alloc (Nat.le_refl _) _⟩
      simp; omega
end Go.Proofs.Ytplhmhclcfclhaa
