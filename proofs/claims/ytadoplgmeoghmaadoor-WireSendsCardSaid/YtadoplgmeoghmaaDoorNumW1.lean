/- The walk of num.length: what the Go text returns is Pl.lenOf, and the world is as it was. Condition: the text is no longer than a Go string may be. The walk of num.Texts. -/
import Derived.Test.YtadoplgmeoghmaaDoorBase
import Derived.Test.YtadoplgmeoghmaaDoorNumPlain
namespace Go.Proofs.YtadoplgmeoghmaaDoor
open Go.RowKit
attribute [local go_sem] ba_get

def len3 (r : Nat × Nat × Nat) : Value := .tuple #[.int .i64 r.1, .int .i64 r.2.1, .int .i64 r.2.2]
theorem len3_mk {r : Nat × Nat × Nat} {a b c : Nat} (h : r = (a, b, c)) : len3 r = .tuple #[.int .i64 a, .int .i64 b, .int .i64 c] := by subst h; rfl

set_option maxRecDepth 100000 in
set_option maxHeartbeats 400000 in
theorem length_any (l : List UInt8) (w : World) (hs : l.length ≤ 9223372036854775807) :
    Calls Tryd.prog 49 #[.string ⟨l.toArray⟩] w (Ret (len3 (Pl.lenOf l 0 0)) w) := by
  obtain ⟨r, hr⟩ : ∃ r, Pl.lenOf l 0 0 = r := ⟨_, rfl⟩
  rw [hr]
  have Hr := Lib.hid hr
  clear hr
  go_enter Tryd.func49, Tryd.ntmps49
  go_wp2
  go_loop [5, 10] (fun n i => ∃ (k m : Nat), k ≤ l.length ∧ i = .int .i64 k ∧ n = .int .i64 m ∧ k < 4 ∧ Hid (m < 128 ^ k ∧ Pl.lenOf (l.drop k) k m = r)) (fun _ i => l.length - (intOf i).toNat)
  case atStart => exact ⟨0, 0, Nat.zero_le _, rfl, rfl, by omega, ⟨by omega, Hr⟩⟩
  case round =>
    obtain ⟨k, m, hk, rfl, rfl, hk4, H⟩ := hrel
    by_cases hlt : k < l.length
    · obtain ⟨c, hc⟩ : ∃ c, l[k] = c := ⟨_, rfl⟩
      have hstep := Pl.lenOf_step l k m hlt
      rw [hc, H.out.2] at hstep
      have ho := Pl.or_len m k c hk4 H.out.1
      have hnx := Pl.or_len_lt m k c.toNat H.out.1
      have HS := Lib.hid (And.intro hstep (And.intro ho hnx)); clear hstep ho hnx H
      by_cases h1 : 128 ≤ (c.toNat : Int)
      · have h1' : ¬ (c.toNat : Int) < 128 := by omega
        by_cases h3 : k = 3
        · subst h3
          go_wp2
          go_ret3
          obtain ⟨hstep, -, -⟩ := HS.out
          rw [if_pos (by simp; omega)] at hstep
          exact ⟨by rw [len3_mk hstep]; rfl, rfl⟩
        · have h3' : ((k : Int) == 3) = false := by simp; omega
          go_wp2
          go_round
          case rel =>
            obtain ⟨hstep, ho, hnx⟩ := HS.out
            rw [if_neg (by omega), if_pos (by omega)] at hstep
            exact ⟨k + 1, _, by omega, by go_num, by rw [ho], by omega, ⟨hnx, hstep.symm⟩⟩
          case measure => simp [intOf]; omega
      · have h1' : (c.toNat : Int) < 128 := by omega
        obtain rfl | rfl | rfl | rfl : k = 0 ∨ k = 1 ∨ k = 2 ∨ k = 3 := by omega
        all_goals by_cases h0 : c.toNat = 0
        all_goals go_wp2
        all_goals go_ret3
        all_goals obtain ⟨hstep, ho, -⟩ := HS.out
        all_goals rw [if_neg (by omega), if_neg (by omega)] at hstep
        all_goals first | rw [if_neg (by omega)] at hstep | rw [if_pos (by omega)] at hstep
        all_goals refine ⟨?_, rfl⟩
        all_goals rw [len3_mk hstep]
        all_goals first | rfl | (simp [h0] at ho ⊢; done) | (simp [h0] at ho ⊢; exact ho) | (simp [h0] at ho ⊢; omega)
    · go_wp2
      go_ret3
      have := H.out.2
      rw [Pl.lenOf_end _ _ _ (by omega)] at this
      subst this
      exact ⟨rfl, rfl⟩

theorem length_at (l : List UInt8) (n u e : Nat) (h : Pl.lenOf l 0 0 = (n, u, e)) (w : World) (hs : l.length ≤ 9223372036854775807) :
    Calls Tryd.prog 49 #[.string ⟨l.toArray⟩] w (Ret (.tuple #[.int .i64 n, .int .i64 u, .int .i64 e]) w) := by
  have := length_any l w hs
  rw [h] at this; exact this
end Go.Proofs.YtadoplgmeoghmaaDoor
namespace Go.Proofs.YtadoplgmeoghmaaDoor
open Go.RowKit
attribute [local go_sem] ba_get ba_cut
attribute [local go_sem] List.drop_zero Nat.sub_zero

/-- A slice of the call's own that reads as texts, and an error beside it. -/
def TextsOut (B : Nat) (r : List (List UInt8) × Nat) (v : Value) (w : World) : Prop := ∃ sv, v = .tuple #[sv, .int .i64 (r.2 : Int)] ∧ w.ownsRow B 9 1 sv r.1.length (strs r.1)

set_option maxRecDepth 100000 in
set_option maxHeartbeats 400000 in
theorem texts_any (b0 : List UInt8) (w : World) (hs : b0.length ≤ 1099511627776) :
    Calls Tryd.prog 23 #[.string ⟨b0.toArray⟩] w (RetB (TextsOut w.heap.size (Pl.texts b0)) w) := by
  obtain ⟨r, hr⟩ : ∃ r, Pl.texts b0 = r := ⟨_, rfl⟩
  rw [hr]
  have Hr := Lib.hid hr
  clear hr
  have hin := info_str
  have HI := Lib.hid hin; clear hin
  go_enter Tryd.func23, Tryd.ntmps23
  go_wp2_with fail
  go_loopw [0, 4] (fun t v wr => ∃ (b : List UInt8) (acc : List (List UInt8)) (k : Nat), t = .string ⟨b.toArray⟩ ∧ b.length + acc.length ≤ b0.length ∧ wr.ownsRow w.heap.size 9 1 v acc.length (strs acc) ∧ Below w.heap.size w wr ∧ Hid (b.length ≤ k ∧ Pl.textsA k b acc = r)) (fun t _ _ => strLen t)
  case atStart => exact ⟨b0, [], b0.length, rfl, by simp, World.ownsRow_nil _ _ _ _, Below.refl _ _, ⟨Nat.le_refl _, Hr⟩⟩
  case round =>
    obtain ⟨b, acc, k, rfl, hle, hown, hbw, H⟩ := hrel
    by_cases hb0 : b.length = 0
    · obtain rfl : b = [] := List.eq_nil_of_length_eq_zero hb0
      go_wp2_with fail
      go_ret2
      have h1 := H.out.2
      rw [Pl.textsA_nil] at h1
      subst h1
      exact ⟨_, rfl, ⟨_, rfl, hown⟩, hbw⟩
    · have hbn : b ≠ [] := fun h => hb0 (by rw [h]; rfl)
      have HBN := Lib.hid hbn; clear hbn
      obtain ⟨⟨n, u, e⟩, hlr⟩ : ∃ x, Pl.lenOf b 0 0 = x := ⟨_, rfl⟩
      have hbd := Pl.lenOf_bd b 0 0 (by omega) (by omega)
      rw [hlr] at hbd
      simp only [Nat.zero_add] at hbd
      obtain ⟨hn, hu, hu4, he4, hu0⟩ := hbd
      have HLR := Lib.hid hlr; clear hlr
      by_cases he : e = 0
      · subst he
        have hu0' := hu0 rfl
        clear hu0
        obtain ⟨b1, hd1⟩ : ∃ b1, b.drop u = b1 := ⟨_, rfl⟩
        have hl1 : b1.length + u ≤ b.length ∧ b.length ≤ b1.length + u := by rw [← hd1]; simp; omega
        obtain ⟨hl1, hl1'⟩ := hl1
        have HD1 := Lib.hid hd1
        have hd1c : List.take (b.length - u) (List.drop u b) = b1 := by rw [cut_all]; exact hd1
        clear hd1
        have HST : Hid (r = Pl.textsA k b acc) := H.out.2.symm
        by_cases hsh : b1.length < n
        · go_wp2_with (go_at_call 49; (with_reducible refine (length_at b n u 0 HLR.out _ (by omega)).mono ?_); rintro e w' ⟨rfl, rfl⟩)
          go_ret2
          have h1 := H.out.2
          rw [Pl.textsA_short k b acc n u HBN.out H.out.1 HLR.out (by rw [HD1.out]; exact hsh)] at h1
          subst h1
          exact ⟨_, rfl, ⟨_, rfl, World.ownsRow_nil _ _ _ _⟩, hbw⟩
        · obtain ⟨x, hx⟩ : ∃ x, b1.take n = x := ⟨_, rfl⟩
          obtain ⟨b2, hd2⟩ : ∃ b2, b1.drop n = b2 := ⟨_, rfl⟩
          have hl2 : b2.length + n ≤ b1.length := by rw [← hd2]; simp; omega
          have HD2 := Lib.hid (And.intro hx hd2)
          have hd2c : List.take (b1.length - n) (List.drop n b1) = b2 := by rw [cut_all]; exact hd2
          clear hd2
          go_wp2_with (first
            | (go_at_call 49; (with_reducible refine (length_at b n u 0 HLR.out _ (by omega)).mono ?_); rintro e w' ⟨rfl, rfl⟩)
            | (at_builtin; refine push_one rfl (.tmp 27) (.tmp 31) 27 rfl w.heap.size 9 (.string ⟨#[]⟩) 16 Tryd.underlying27 HI.out rfl _ _ _ _ _ rfl hown rfl rfl (by omega) (by omega) hbw.size ?_; intro v' w1 hown1 hb1))
          go_roundw
          case rel =>
            refine ⟨b2, acc ++ [x], k - 1, rfl, by simp; omega, by rw [strs_snoc]; simpa using hown1, hbw.trans hb1, ?_, ?_⟩
            · have := H.out.1; omega
            · have h1 := H.out.2
              rw [Pl.textsA_more k b acc n u HBN.out H.out.1 HLR.out (by rw [HD1.out]; exact hsh), HD1.out, HD2.out.1, HD2.out.2] at h1
              exact h1
          case measure => simp [strLen, ByteArray.size]; omega
      · have he' : ((e : Int) != 0) = true := by rw [bne_iff_ne]; omega
        go_wp2_with (go_at_call 49; (with_reducible refine (length_at b n u e HLR.out _ (by omega)).mono ?_); rintro e w' ⟨rfl, rfl⟩)
        go_ret2
        have h1 := H.out.2
        rw [Pl.textsA_err k b acc n u e HBN.out H.out.1 HLR.out he] at h1
        subst h1
        exact ⟨_, rfl, ⟨_, rfl, World.ownsRow_nil _ _ _ _⟩, hbw⟩
end Go.Proofs.YtadoplgmeoghmaaDoor
