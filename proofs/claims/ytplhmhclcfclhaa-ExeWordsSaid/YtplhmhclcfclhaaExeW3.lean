/- The walks of exe.Bytes and the reference's Bytes: a program's file, or the error. -/
import Derived.Test.YtplhmhclcfclhaaExeW2
namespace Go.Proofs.Ytplhmhclcfclhaa
open Go.RowKit
attribute [local go_sem] ba_get ba_add

/-- Four cells of a block. -/
def Box4 (w : World) (b : Nat) (v0 v1 v2 v3 : Value) : Prop := w.cell? ⟨b, 0, none⟩ = some v0 ∧ w.cell? ⟨b, 1, none⟩ = some v1 ∧ w.cell? ⟨b, 2, none⟩ = some v2 ∧ w.cell? ⟨b, 3, none⟩ = some v3
theorem Box4.keep {w w' : World} {b : Nat} {v0 v1 v2 v3 : Value} {B : Nat} (h : Box4 w b v0 v1 v2 v3) (hb : Below B w w') (hB : b < B) : Box4 w' b v0 v1 v2 v3 :=
  ⟨(hb.cell (p := ⟨b, 0, none⟩) hB).trans h.1, (hb.cell (p := ⟨b, 1, none⟩) hB).trans h.2.1, (hb.cell (p := ⟨b, 2, none⟩) hB).trans h.2.2.1, (hb.cell (p := ⟨b, 3, none⟩) hB).trans h.2.2.2⟩
theorem Box4.new (w : World) (v0 v1 v2 v3 : Value) (t : TypeId) : Box4 (w.alloc (.cells #[v0, v1, v2, v3] t)) w.heap.size v0 v1 v2 v3 := by
  unfold Box4; simp [go_sem]
/-- A builder's calls leave a block of another kind. -/
theorem Box4.kept {w w' : World} {b bb : Nat} {v0 v1 v2 v3 : Value} {cs : Array Value} {t : TypeId} (h : Box4 w b v0 v1 v2 v3) (hk : Kept bb w w') (hne : b ≠ bb) (hcs : w.heap[b]? = some (.cells cs t (0, 0))) (ht : t ≠ 5) : Box4 w' b v0 v1 v2 v3 := by
  have h1 : w'.heap[b]? = some (.cells cs t (0, 0)) := hk b _ hcs (by simpa using hne) (fun c fz he => by injection he with _ h2; exact ht h2)
  have e : ∀ i, w'.cell? ⟨b, i, none⟩ = w.cell? ⟨b, i, none⟩ := fun i => World.cell?_of_block (by rw [h1, hcs])
  exact ⟨(e 0).trans h.1, (e 1).trans h.2.1, (e 2).trans h.2.2.1, (e 3).trans h.2.2.2⟩

theorem chk_ok {x : Pl.Exe} (h : Pl.chk x = 0) : 1 ≤ x.text.length ∧ x.text.length ≤ 448 ∧ 0 ≤ x.room ∧ x.room ≤ 1792 ∧ x.data.length ≤ 1792 ∧ x.entry % 4 = 0 ∧ x.entry < 4 * x.text.length ∧ Pl.pagesN (4 * x.text.length) + Pl.pagesN (x.data.length + x.room) ≤ 14 := by
  have hb : Pl.chkB x = false := by
    cases hc : Pl.chkB x
    · rfl
    · simp [Pl.chk, hc] at h
  have := of_decide_eq_false hb
  omega

/-- The bytes of the first j of three numbers. -/
def nums (n d r : Nat) (j : Nat) : List UInt8 := if j = 0 then [] else if j = 1 then Pl.putB n 2 else if j = 2 then Pl.putB n 2 ++ Pl.putB d 2 else Pl.putB n 2 ++ (Pl.putB d 2 ++ Pl.putB r 2)
theorem nums_at (n d r j : Nat) (hj : j < 3) (hn : n ≤ 65535) (hd : d ≤ 65535) (hr : r ≤ 65535) : ∃ q : Nat, q ≤ 65535 ∧ (∀ W, (Instr.index 88 (.agg #[.int .i64 (n : Int), .int .i64 (d : Int), .int .i64 (r : Int)]) (.int .i64 (j : Int))).run Try.prog W = .ok (.int .i64 (q : Int)) W) ∧ nums n d r (j + 1) = nums n d r j ++ Pl.putB q 2 := by
  obtain rfl | rfl | rfl : j = 0 ∨ j = 1 ∨ j = 2 := by omega
  · exact ⟨n, hn, fun W => by kernel_rfl, by simp [nums]⟩
  · exact ⟨d, hd, fun W => by kernel_rfl, by simp [nums]⟩
  · exact ⟨r, hr, fun W => by kernel_rfl, by simp [nums]⟩
def bytesV (x : Pl.Exe) : Value := .tuple #[.string ⟨(if Pl.chk x = 0 then Pl.fileB x else []).toArray⟩, .int .i64 (Pl.chk x : Int)]

set_option maxRecDepth 100000 in
set_option maxHeartbeats 1000000 in
theorem bytes_any (A : Option Addr) (c : Nat) (x : Pl.Exe) (w : World) (hx : ExeOk x) (ha : Rd w 1 A x.text.length (u32s x.text)) (ht : ∀ y ∈ x.text, y < 4294967296) :
    Calls Try.prog 30 #[exeV A c x] w (RetB (fun v _ => v = bytesV x) w) := by
  obtain ⟨k, hk⟩ : ∃ k, Pl.chk x = k := ⟨_, rfl⟩
  have hk01 : k = 0 ∨ k = 1 := by rw [← hk]; unfold Pl.chk; split <;> simp
  have hck := fun (c : Nat) (w : World) => check_any A c x w hx
  have HX := Lib.hid (And.intro hk (And.intro hx hck)); clear hk hx hck
  obtain ⟨t, d, room, entry⟩ := x
  simp only at ha ht
  have hev : exeV A c ⟨t, d, room, entry⟩ = .agg #[.slice A t.length c, .string ⟨d.toArray⟩, .int .i64 room, .int .u32 (entry : Int)] := rfl
  rw [hev]
  have HE := Lib.hid hev; clear hev
  obtain ⟨n, hnl⟩ : ∃ n, t.length = n := ⟨_, rfl⟩
  rw [hnl] at ha ⊢
  have HF := Lib.hid (And.intro hnl ht); clear hnl ht
  rcases hk01 with rfl | rfl
  · obtain ⟨g1, g2, g3, g4, g5, g6, g7, g8⟩ := chk_ok HX.out.1
    simp only at g1 g2 g3 g4 g5 g6 g7
    rw [HF.out.1] at g1 g2 g7
    clear g8
    obtain ⟨r, rfl⟩ := Int.eq_ofNat_of_zero_le g3
    go_enter Try.func30, Try.ntmps30
    go_wp2_with fail
    have hck := HX.out.2.2 c (w.alloc (.cells #[.slice A n c, .string ⟨d.toArray⟩, .int .i64 r, .int .u32 (entry : Int)] 43))
    rw [HE.out, HF.out.1, HX.out.1] at hck
    (with_reducible refine hck.mono ?_)
    rintro e w1 ⟨v, rfl, rfl, hb1⟩
    clear hck
    have hbw1 : Below w.heap.size w w1 := ((Below.refl _ _).alloc (Nat.le_refl _) _).trans (hb1.mono (by simp))
    have hbox := (Box4.new w (.slice A n c) (.string ⟨d.toArray⟩) (.int .i64 r) (.int .u32 (entry : Int)) 43).keep hb1 (by simp)
    have hsz : w.heap.size < w1.heap.size := by have := hb1.size; simp at this; omega
    have ha1 := ha.below hbw1
    clear hb1
    have hB0 := bld_new w1.heap.size w1 (Nat.le_refl _)
    have hbB0 : Below w1.heap.size w1 (w1.alloc (.cells #[.pointer none, .slice none 0 0] 68)) := (Below.refl _ _).alloc (Nat.le_refl _) _
    go_wp2_with fail
    (with_reducible refine (bld_writeString w1.heap.size w1.heap.size [] [104, 105, 98, 120] _ hB0 (by simp) hbB0.size).mono ?_)
    rintro e w2 ⟨rfl, hB2, hb2, -⟩
    have hbB2 := hbB0.trans hb2
    clear hB0 hbB0 hb2
    obtain ⟨hc0, hc1, hc2, hc3⟩ := hbox.keep hbB2 hsz
    go_wp2_with fail
    (with_reducible refine (put_int _ ?_ 4 _).mono ?_)
    · omega
    rintro e w3 ⟨v, rfl, rfl, hb3⟩
    rw [show putK 4 = 4 from rfl, Int.toNat_natCast]
    clear hc0 hc1 hc2 hc3
    have hB3 := hB2.below hb3
    have hbB3 := hbB2.trans (hb3.mono hbB2.size)
    clear hB2 hbB2 hb3
    have hp4 : (Pl.putB entry 4).length ≤ 4 := by rw [Pl.putB_len]; omega
    go_wp2_with fail
    (with_reducible refine (bld_writeString w1.heap.size w1.heap.size _ (Pl.putB entry 4) _ hB3 (by simp; omega) hbB3.size).mono ?_)
    rintro e w4 ⟨rfl, hB4, hb4, -⟩
    have hbB4 := hbB3.trans hb4
    clear hB3 hbB3 hb4
    obtain ⟨hc0, hc1, hc2, hc3⟩ := hbox.keep hbB4 hsz
    go_wp2_with fail
    clear hc0 hc1 hc2 hc3
    go_loopw [28] (fun i wr => ∃ (j : Nat) (b : List UInt8), j ≤ 3 ∧ i = .int .i64 j ∧ Bld w1.heap.size w1.heap.size b wr ∧ Below w1.heap.size w1 wr ∧ b.length ≤ 8 + 2 * j ∧ Hid (b = [104, 105, 98, 120] ++ (Pl.putB entry 4 ++ nums n d.length r j))) (fun i _ => 3 - (intOf i).toNat)
    case atStart => exact ⟨0, _, by omega, rfl, hB4, hbB4, by simp; omega, by simp [Hid, nums]⟩
    case round =>
      clear hB4 hbB4
      obtain ⟨j, b, hj, rfl, hB, hbB, hbl, H⟩ := hrel
      by_cases hlt : j < 3
      · obtain ⟨q, hq, hqx, hqn⟩ := nums_at n d.length r j hlt (by omega) (by omega) (by omega)
        have hix : ∀ W, (Instr.index 88 (.agg #[.int .i64 (n : Int), .int .i64 (d.length : Int), .int .i64 (r : Int)]) (.int .i64 (j : Int))).run Try.prog W = .ok (.int .i64 (q : Int)) W := hqx
        have HQ := Lib.hid hqn; clear hqn hqx
        go_wp2_with fail
        (with_reducible refine (put_int _ ?_ 2 _).mono ?_)
        · omega
        rintro e w5 ⟨v, rfl, rfl, hb5⟩
        rw [show putK 2 = 2 from rfl, Int.toNat_natCast]
        have hB5 := hB.below hb5
        have hbB5 := hbB.trans (hb5.mono hbB.size)
        have hp2 : (Pl.putB q 2).length ≤ 2 := by rw [Pl.putB_len]; omega
        go_wp2_with fail
        (with_reducible refine (bld_writeString w1.heap.size w1.heap.size b (Pl.putB q 2) _ hB5 (by omega) hbB5.size).mono ?_)
        rintro e w6 ⟨rfl, hB6, hb6, -⟩
        go_wp2_with fail
        go_roundw
        case rel =>
          refine ⟨j + 1, _, by omega, by go_num, hB6, hbB5.trans hb6, by simp; omega, ?_⟩
          show _ = _
          rw [H.out, HQ.out]; simp
        case measure => simp [intOf]; omega
      · have hj3 : j = 3 := by omega
        have hb3 := H.out
        rw [hj3] at hb3
        have HB3 := Lib.hid hb3; clear hb3 hj3
        obtain ⟨hc0, hc1, hc2, hc3⟩ := hbox.keep hbB hsz
        go_wp2_with fail
        (with_reducible refine (words_any A n c t _ (ha1.below hbB) (by omega) HF.out.2).mono ?_)
        rintro e w5 ⟨v, rfl, rfl, hb5⟩
        clear hc0 hc1 hc2 hc3
        have hB5 := hB.below hb5
        have hbB5 := hbB.trans (hb5.mono hbB.size)
        have hwl : (Pl.wordsB t).length ≤ 4 * n := by rw [Pl.wordsB_len, HF.out.1]; omega
        go_wp2_with fail
        (with_reducible refine (bld_writeString w1.heap.size w1.heap.size b (Pl.wordsB t) _ hB5 (by omega) hbB5.size).mono ?_)
        rintro e w6 ⟨rfl, hB6, hb6, -⟩
        have hbB6 := hbB5.trans hb6
        obtain ⟨hc0, hc1, hc2, hc3⟩ := hbox.keep hbB6 hsz
        go_wp2_with fail
        (with_reducible refine (bld_writeString w1.heap.size w1.heap.size _ d _ hB6 (by simp; omega) hbB6.size).mono ?_)
        rintro e w7 ⟨rfl, hB7, hb7, -⟩
        have hbB7 := hbB6.trans hb7
        clear hc0 hc1 hc2 hc3
        go_wp2_with fail
        (with_reducible refine (bld_string w1.heap.size w1.heap.size _ _ hB7 hbB7.size).mono ?_)
        rintro e w8 ⟨rfl, hB8, hb8, -⟩
        go_wp2_with fail
        go_ret2
        refine ⟨_, rfl, ?_, hbw1.trans ((hbB7.trans hb8).mono hbw1.size)⟩
        unfold bytesV
        rw [HX.out.1, if_pos rfl]
        show Value.tuple #[Value.string _, _] = _
        congr 4
        rw [HB3.out]
        unfold Pl.fileB
        simp only
        rw [HF.out.1]
        simp [nums, List.append_assoc]
  · go_enter Try.func30, Try.ntmps30
    go_wp2_with fail
    have hck := HX.out.2.2 c (w.alloc (.cells #[.slice A n c, .string ⟨d.toArray⟩, .int .i64 room, .int .u32 (entry : Int)] 43))
    rw [HE.out, HF.out.1, HX.out.1] at hck
    (with_reducible refine hck.mono ?_)
    rintro e w1 ⟨v, rfl, rfl, hb1⟩
    clear hck
    go_wp2_with fail
    go_ret2
    refine ⟨_, rfl, ?_, ((Below.refl _ _).alloc (Nat.le_refl _) _).trans (hb1.mono (by simp))⟩
    unfold bytesV
    rw [HX.out.1]
    rfl
end Go.Proofs.Ytplhmhclcfclhaa
