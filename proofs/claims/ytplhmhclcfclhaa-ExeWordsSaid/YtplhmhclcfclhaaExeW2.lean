/- The walks of exe.words and the reference's text: the words' bytes. -/
import Derived.Test.YtplhmhclcfclhaaExeW1
namespace Go.Proofs.Ytplhmhclcfclhaa
open Go.RowKit
attribute [local go_sem] ba_get ba_add

theorem rput_int (x : Int) (hx : 0 ≤ x) (hx2 : x < 18446744073709551616) (size : Int) (w : World) :
    Calls Try.prog 22 #[.int .u64 x, .int .i64 size] w (RetB (fun v _ => v = .string ⟨(Pl.putB x.toNat (putK size)).toArray⟩) w) := by
  obtain ⟨n, rfl⟩ := Int.eq_ofNat_of_zero_le hx
  exact rput_any n (by omega) size w

set_option maxRecDepth 100000 in
set_option maxHeartbeats 1000000 in
theorem words_any (A : Option Addr) (n c : Nat) (t : List Nat) (w : World) (ha : Rd w 1 A n (u32s t)) (hn : n ≤ 1099511627776) (ht : ∀ x ∈ t, x < 4294967296) :
    Calls Try.prog 47 #[.slice A n c] w (RetB (fun v _ => v = .string ⟨(Pl.wordsB t).toArray⟩) w) := by
  have hl := ha.len1; rw [u32s_len] at hl
  have HF := Lib.hid (And.intro hl ht); clear hl ht
  go_enter Try.func47, Try.ntmps47
  go_wp2_with fail
  go_loopw [8] (fun i wr => ∃ (j : Nat) (b : List UInt8), j ≤ n ∧ i = .int .i64 j ∧ Bld w.heap.size w.heap.size b wr ∧ Below w.heap.size w wr ∧ b.length ≤ 4 * j ∧ Hid (Pl.wordsB (t.take j) = b)) (fun i _ => n - (intOf i).toNat)
  case atStart => exact ⟨0, [], Nat.zero_le _, rfl, bld_new _ _ (Nat.le_refl _), (Below.refl _ _).alloc (Nat.le_refl _) _, by simp, by simp [Hid, Pl.wordsB]⟩
  case round =>
    obtain ⟨j, b, hj, rfl, hB, hbw, hbl, H⟩ := hrel
    by_cases hlt : j < n
    · obtain ⟨b1, o1, rfl, -, hc1⟩ := (ha.below hbw).at1 hlt
      have hjl : j < t.length := by rw [HF.out.1]; exact hlt
      rw [u32s_get t j hjl] at hc1
      have hst := Pl.wordsB_take t j hjl
      have hx4 := HF.out.2 t[j] (List.getElem_mem hjl)
      rw [H.out] at hst
      obtain ⟨x, hx⟩ : ∃ x, t[j] = x := ⟨_, rfl⟩
      rw [hx] at hc1 hst hx4
      have HH := Lib.hid hst; clear hst hx hjl
      go_wp2_with fail
      (with_reducible refine (put_int _ ?_ 4 _).mono ?_)
      · omega
      rintro e w1 ⟨v, rfl, rfl, hb1⟩
      rw [show putK 4 = 4 from rfl, Int.toNat_natCast]
      have hpl : (Pl.putB x 4).length ≤ 4 := by rw [Pl.putB_len]; omega
      have hB1 := hB.below hb1
      have hbw1 := hbw.trans (hb1.mono hbw.size)
      go_wp2_with fail
      (with_reducible refine (bld_writeString w.heap.size w.heap.size b (Pl.putB x 4) _ hB1 (by omega) hbw1.size).mono ?_)
      rintro e w2 ⟨rfl, hB2, hb2, -⟩
      go_wp2_with fail
      go_roundw
      case rel => exact ⟨j + 1, _, by omega, by go_num, hB2, hbw1.trans hb2, by simp; omega, HH⟩
      case measure => simp [intOf]; omega
    · have h1 := H.out
      rw [List.take_of_length_le (by rw [HF.out.1]; omega)] at h1
      have HX := Lib.hid h1; clear h1
      go_wp2_with fail
      (with_reducible refine (bld_string w.heap.size w.heap.size b _ hB hbw.size).mono ?_)
      rintro e w2 ⟨rfl, hB2, hb2, -⟩
      go_wp2_with fail
      go_ret
      exact ⟨_, rfl, by rw [HX.out]; rfl, hbw.trans hb2⟩

set_option maxRecDepth 100000 in
set_option maxHeartbeats 1000000 in
theorem rtext_any (A : Option Addr) (c : Nat) (x : Pl.Exe) (w : World) (ha : Rd w 1 A x.text.length (u32s x.text)) (hn : x.text.length ≤ 1099511627776) (ht : ∀ y ∈ x.text, y < 4294967296) :
    Calls Try.prog 50 #[exeV A c x] w (RetB (fun v _ => v = .string ⟨(Pl.wordsB x.text).toArray⟩) w) := by
  obtain ⟨t, d, room, entry⟩ := x
  simp only at ha hn ht
  unfold exeV
  simp only
  obtain ⟨n, hnl⟩ : ∃ n, t.length = n := ⟨_, rfl⟩
  rw [hnl] at ha hn ⊢
  have HF := Lib.hid (And.intro hnl ht); clear hnl ht
  go_enter Try.func50, Try.ntmps50
  go_wp2_with fail
  go_loopw [3, 8] (fun s i wr => ∃ (j : Nat) (b : List UInt8), j ≤ n ∧ i = .int .i64 j ∧ s = .string ⟨b.toArray⟩ ∧ Below (w.heap.size + 1) (w.alloc (.cells #[.slice A n c, .string ⟨d.toArray⟩, .int .i64 room, .int .u32 (entry : Int)] 43)) wr ∧ b.length ≤ 4 * j ∧ Hid (Pl.wordsB (t.take j) = b)) (fun _ i _ => n - (intOf i).toNat)
  case atStart => exact ⟨0, [], Nat.zero_le _, rfl, rfl, Below.refl _ _, by simp, by simp [Hid, Pl.wordsB]⟩
  case round =>
    obtain ⟨j, b, hj, rfl, rfl, hbw, hbl, H⟩ := hrel
    have hbw' : Below w.heap.size w wr := ((Below.refl _ _).alloc (Nat.le_refl _) _).trans (hbw.mono (by omega))
    by_cases hlt : j < n
    · obtain ⟨b1, o1, rfl, -, hc1⟩ := (ha.below hbw').at1 hlt
      have hjl : j < t.length := by rw [HF.out.1]; exact hlt
      rw [u32s_get t j hjl] at hc1
      have hst := Pl.wordsB_take t j hjl
      have hx4 := HF.out.2 t[j] (List.getElem_mem hjl)
      rw [H.out] at hst
      obtain ⟨x, hx⟩ : ∃ x, t[j] = x := ⟨_, rfl⟩
      rw [hx] at hc1 hst hx4
      have hb0 : wr.cell? ⟨w.heap.size, 0, none⟩ = some (.slice (some ⟨b1, o1, none⟩) n c) := (hbw.cell (p := ⟨w.heap.size, 0, none⟩) (by simp)).trans (by simp [go_sem])
      have hpl : (Pl.putB x 4).length ≤ 4 := by rw [Pl.putB_len]; omega
      have hcat : b.length + (Pl.putB x 4).length ≤ 9223372036854775807 := by omega
      have HH := Lib.hid hst; clear hst hx hjl
      go_wp2_with fail
      (with_reducible refine (rput_int _ ?_ ?_ 4 _).mono ?_)
      · omega
      · omega
      rintro e w1 ⟨v, rfl, rfl, hb1⟩
      rw [show putK 4 = 4 from rfl, Int.toNat_natCast]
      go_wp2_with fail
      go_roundw
      case rel => exact ⟨j + 1, b ++ Pl.putB x 4, by omega, by go_num, rfl, hbw.trans (hb1.mono (by have := hbw.size; simpa using this)), by simp; omega, HH⟩
      case measure => simp [intOf]; omega
    · have h1 := H.out
      rw [List.take_of_length_le (by rw [HF.out.1]; omega)] at h1
      have HX := Lib.hid h1; clear h1
      go_wp2_with fail
      go_ret
      exact ⟨_, rfl, by rw [HX.out]; rfl, hbw'⟩
end Go.Proofs.Ytplhmhclcfclhaa
