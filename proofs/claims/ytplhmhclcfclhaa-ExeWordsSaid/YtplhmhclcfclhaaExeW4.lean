/- The walk of the reference's Bytes. -/
import Derived.Test.YtplhmhclcfclhaaExeW3
namespace Go.Proofs.Ytplhmhclcfclhaa
open Go.RowKit
attribute [local go_sem] ba_get ba_add Pl.putB_len Pl.wordsB_len

theorem rput_4 (n : Nat) (w : World) (h : n < 18446744073709551616) :
    Calls Try.prog 22 #[.int .u64 (n : Int), .int .i64 4] w (RetB (fun v _ => v = .string ⟨(Pl.putB n 4).toArray⟩) w) := rput_any n h 4 w
theorem rput_2 (n : Nat) (w : World) (h : n < 18446744073709551616) :
    Calls Try.prog 22 #[.int .u64 (n : Int), .int .i64 2] w (RetB (fun v _ => v = .string ⟨(Pl.putB n 2).toArray⟩) w) := rput_any n h 2 w
set_option maxRecDepth 100000 in
set_option maxHeartbeats 1000000 in
theorem rbytes_any (A : Option Addr) (c : Nat) (x : Pl.Exe) (w : World) (hx : ExeOk x) (ha : Rd w 1 A x.text.length (u32s x.text)) (ht : ∀ y ∈ x.text, y < 4294967296) :
    Calls Try.prog 31 #[exeV A c x] w (RetB (fun v _ => v = bytesV x) w) := by
  obtain ⟨k, hk⟩ : ∃ k, Pl.chk x = k := ⟨_, rfl⟩
  have hk01 : k = 0 ∨ k = 1 := by rw [← hk]; unfold Pl.chk; split <;> simp
  have hck := fun (c : Nat) (w : World) => rcheck_any A c x w hx
  have HX := Lib.hid (And.intro hk (And.intro hx hck)); clear hk hx hck
  obtain ⟨t, d, room, entry⟩ := x
  simp only at ha ht
  have hev : exeV A c ⟨t, d, room, entry⟩ = .agg #[.slice A t.length c, .string ⟨d.toArray⟩, .int .i64 room, .int .u32 (entry : Int)] := rfl
  rw [hev]
  have HE := Lib.hid hev; clear hev
  obtain ⟨n, hnl⟩ : ∃ n, t.length = n := ⟨_, rfl⟩
  rw [hnl] at ha ⊢
  have HF := Lib.hid (And.intro hnl ht); clear hnl ht
  rcases hk01 with rfl | rfl
  · obtain ⟨g1, g2, g3, g4, g5, g6, g7, g8⟩ := chk_ok HX.out.1
    simp only at g1 g2 g3 g4 g5 g6 g7
    rw [HF.out.1] at g1 g2 g7
    clear g8
    obtain ⟨r, rfl⟩ := Int.eq_ofNat_of_zero_le g3
    go_enter Try.func31, Try.ntmps31
    go_wp2_with fail
    have hck := HX.out.2.2 c (w.alloc (.cells #[.slice A n c, .string ⟨d.toArray⟩, .int .i64 r, .int .u32 (entry : Int)] 43))
    rw [HE.out, HF.out.1, HX.out.1] at hck
    (with_reducible refine hck.mono ?_)
    rintro e w1 ⟨v, rfl, rfl, hb1⟩
    clear hck
    have hbw1 : Below w.heap.size w w1 := ((Below.refl _ _).alloc (Nat.le_refl _) _).trans (hb1.mono (by simp))
    have hbox := (Box4.new w (.slice A n c) (.string ⟨d.toArray⟩) (.int .i64 r) (.int .u32 (entry : Int)) 43).keep hb1 (by simp)
    have hsz : w.heap.size < w1.heap.size := by have := hb1.size; simp at this; omega
    have ha1 := ha.below hbw1
    clear hb1
    obtain ⟨hc0, hc1, hc2, hc3⟩ := hbox
    go_wp2_with fail
    have e1 : IntKind.u64.wrap (entry : Int) = entry := IntWalk.u64_in _ (by omega)
    have e2 : IntKind.u64.wrap (n : Int) = n := IntWalk.u64_in _ (by omega)
    have e3 : IntKind.u64.wrap (d.length : Int) = d.length := IntWalk.u64_in _ (by omega)
    have e4 : IntKind.u64.wrap (r : Int) = r := IntWalk.u64_in _ (by omega)
    have hdb : Below w1.heap.size w1 w1.drew := (Below.refl _ _).drew
    go_region_held3 (fun w' => w'.cell? ⟨w.heap.size, 0, none⟩ = some (.slice A n c) ∧ w'.cell? ⟨w.heap.size, 1, none⟩ = some (.string ⟨d.toArray⟩) ∧ w'.cell? ⟨w.heap.size, 2, none⟩ = some (.int .i64 r) ∧ w'.cell? ⟨w.heap.size, 3, none⟩ = some (.int .u32 (entry : Int)))
      (exact ⟨(hdb.cell (p := ⟨w.heap.size, 0, none⟩) hsz).trans hc0, (hdb.cell (p := ⟨w.heap.size, 1, none⟩) hsz).trans hc1, (hdb.cell (p := ⟨w.heap.size, 2, none⟩) hsz).trans hc2, (hdb.cell (p := ⟨w.heap.size, 3, none⟩) hsz).trans hc3⟩)
      (first
        | (go_at_call 22; (with_reducible refine (rput_4 _ _ (by omega)).mono ?_); rintro e w2 ⟨v, rfl, rfl, hb2⟩; replace hdb := hdb.trans (hb2.mono hdb.size); clear hb2)
        | (go_at_call 22; (with_reducible refine (rput_2 _ _ (by omega)).mono ?_); rintro e w2 ⟨v, rfl, rfl, hb2⟩; replace hdb := hdb.trans (hb2.mono hdb.size); clear hb2))
    clear hc0 hc1 hc2 hc3
    rename_i hH
    obtain ⟨hc0, hc1, hc2, hc3⟩ := hH
    obtain ⟨w3, hw3⟩ : ∃ w3, w3 = w2 := ⟨_, rfl⟩
    rw [← hw3] at hdb hc0 hc1 hc2 hc3 ⊢
    clear hw3
    have hbw3 : Below w.heap.size w w3 := hbw1.trans (hdb.mono (Nat.le_of_lt hsz))
    have hs3 : w.heap.size < w3.heap.size := Nat.lt_of_lt_of_le hsz hdb.size
    have ha3 := ha.below hbw3
    have htx := rtext_any A c ⟨t, d, r, entry⟩
    rw [HE.out] at htx
    simp only at htx
    have HTX := Lib.hid htx; clear htx hdb
    have hdb : Below w3.heap.size w3 w3.drew := (Below.refl _ _).drew
    have htl : t.length ≤ 448 := by rw [HF.out.1]; exact g2
    have hL1 : ¬ 9223372036854775807 < 14 + 4 * t.length := by omega
    have hL2 : ¬ 9223372036854775807 < 4 + (2 + (2 + (2 + 4 * t.length))) + 1 + 1 + 1 + 1 + d.length := by omega
    go_wp2_with fail
    go_region_held3 (fun w' => w'.cell? ⟨w.heap.size, 0, none⟩ = some (.slice A n c) ∧ w'.cell? ⟨w.heap.size, 1, none⟩ = some (.string ⟨d.toArray⟩) ∧ w'.cell? ⟨w.heap.size, 2, none⟩ = some (.int .i64 r) ∧ w'.cell? ⟨w.heap.size, 3, none⟩ = some (.int .u32 (entry : Int)))
      (exact ⟨(hdb.cell (p := ⟨w.heap.size, 0, none⟩) hs3).trans hc0, (hdb.cell (p := ⟨w.heap.size, 1, none⟩) hs3).trans hc1, (hdb.cell (p := ⟨w.heap.size, 2, none⟩) hs3).trans hc2, (hdb.cell (p := ⟨w.heap.size, 3, none⟩) hs3).trans hc3⟩)
      (first
        | (go_at_call 50; have hq := HTX.out _ (by rw [HF.out.1]; exact ha3.below hdb) (by omega) HF.out.2; rw [HF.out.1] at hq; (with_reducible refine hq.mono ?_); rintro e w4 ⟨v, rfl, rfl, hb4⟩; replace hdb := hdb.trans (hb4.mono hdb.size); clear hb4 hq))
    go_wp2_with fail
    go_ret2
    refine ⟨_, rfl, ?_, hbw3.trans (hdb.mono hbw3.size)⟩
    unfold bytesV
    rw [HX.out.1, if_pos rfl]
    show Value.tuple #[Value.string _, _] = _
    congr 4
    unfold Pl.fileB
    simp only
    rw [HF.out.1]
    simp
  · go_enter Try.func31, Try.ntmps31
    go_wp2_with fail
    have hck := HX.out.2.2 c (w.alloc (.cells #[.slice A n c, .string ⟨d.toArray⟩, .int .i64 room, .int .u32 (entry : Int)] 43))
    rw [HE.out, HF.out.1, HX.out.1] at hck
    (with_reducible refine hck.mono ?_)
    rintro e w1 ⟨v, rfl, rfl, hb1⟩
    clear hck
    go_wp2_with fail
    go_ret2
    refine ⟨_, rfl, ?_, ((Below.refl _ _).alloc (Nat.le_refl _) _).trans (hb1.mono (by simp))⟩
    unfold bytesV
    rw [HX.out.1]
    rfl
end Go.Proofs.Ytplhmhclcfclhaa
