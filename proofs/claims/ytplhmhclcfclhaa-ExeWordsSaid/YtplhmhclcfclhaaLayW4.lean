/- The walk of the reference's Lay. -/
import Derived.Test.YtplhmhclcfclhaaLayW3
namespace Go.Proofs.Ytplhmhclcfclhaa
open Go.RowKit
attribute [local go_sem] ba_get ba_add Pl.zs_len

theorem rlay_at (base : Nat) (A : Option Addr) (c m : Nat) (L R : List Pl.Lay) (a : Nat) (x : Int) (b0 : List UInt8) (wr0 : Bool) (w : World) (hm : L.length = m) (hx : x = (a : Int)) (hR : Pl.rlay L a b0 wr0 = R) (hown : w.ownsRow base 49 3 (.slice A m c) m (layCs L)) (hbase : base ≤ w.heap.size) (hL : m ≤ 1000) (hb0 : b0.length ≤ 100000) (hat : x ≤ 1000) :
    Calls Try.prog 49 #[.slice A m c, .int .i64 x, .string ⟨b0.toArray⟩, .bool wr0] w fun e w' => ∃ A' c', e = .returned (.slice A' R.length c') ∧ w'.ownsRow base 49 3 (.slice A' R.length c') R.length (layCs R) ∧ Below base w w' := by
  subst hm hx hR
  exact rlay_any base A c L a b0 wr0 w hown hbase hL hb0 (by omega)

set_option maxRecDepth 100000 in
set_option maxHeartbeats 1000000 in
theorem rLay_any (A : Option Addr) (c : Nat) (x : Pl.Exe) (w : World) (hx : ExeOk x) (ha : Rd w 1 A x.text.length (u32s x.text)) (ht : ∀ y ∈ x.text, y < 4294967296) :
    Calls Try.prog 28 #[exeV A c x] w (RetB (LayOut x) w) := by
  obtain ⟨k, hk⟩ : ∃ k, Pl.chk x = k := ⟨_, rfl⟩
  have hk01 : k = 0 ∨ k = 1 := by rw [← hk]; unfold Pl.chk; split <;> simp
  have hck := fun (c : Nat) (w : World) => rcheck_any A c x w hx
  have hrt := rtext_any A c x
  have HX := Lib.hid (And.intro hk (And.intro hx (And.intro hck hrt))); clear hk hx hck hrt
  obtain ⟨t, d, room, entry⟩ := x
  simp only at ha ht
  have hev : exeV A c ⟨t, d, room, entry⟩ = .agg #[.slice A t.length c, .string ⟨d.toArray⟩, .int .i64 room, .int .u32 (entry : Int)] := rfl
  rw [hev]
  have HE := Lib.hid hev; clear hev
  obtain ⟨n, hnl⟩ : ∃ n, t.length = n := ⟨_, rfl⟩
  rw [hnl] at ha ⊢
  have HF := Lib.hid (And.intro hnl ht); clear hnl ht
  obtain ⟨W1, hW1⟩ : ∃ W1, W1 = (w.alloc (.cells #[.slice A n c, .string ⟨d.toArray⟩, .int .i64 room, .int .u32 (entry : Int)] 43)).alloc (.cells #[] 49) := ⟨_, rfl⟩
  have hbW : Below w.heap.size w W1 := by rw [hW1]; exact ((Below.refl _ _).alloc (Nat.le_refl _) _).alloc (by simp) _
  have hsW : w.heap.size + 2 ≤ W1.heap.size := by rw [hW1]; simp
  have hbxW : Box4 W1 w.heap.size (.slice A n c) (.string ⟨d.toArray⟩) (.int .i64 room) (.int .u32 (entry : Int)) := by
    have h1 := Box4.new w (.slice A n c) (.string ⟨d.toArray⟩) (.int .i64 room) (.int .u32 (entry : Int)) 43
    rw [hW1]
    exact h1.keep (B := (w.alloc (.cells #[.slice A n c, .string ⟨d.toArray⟩, .int .i64 room, .int .u32 (entry : Int)] 43)).heap.size) ((Below.refl _ _).alloc (Nat.le_refl _) _) (by simp)
  have hownW : W1.ownsRow (w.heap.size + 1) 49 3 (.slice (some ⟨w.heap.size + 1, 0, none⟩) 0 0) 0 [] := by
    have h1 := World.ownsRow_made (base := w.heap.size + 1) (e := 49) (size := 3) (w.alloc (.cells #[.slice A n c, .string ⟨d.toArray⟩, .int .i64 room, .int .u32 (entry : Int)] 43)) #[] 0 (by simp) (by simp [maxLen]) (by simp)
    rw [hW1]; simpa using h1
  have HW1 := Lib.hid hW1; clear hW1
  rcases hk01 with rfl | rfl
  · obtain ⟨g1, g2, g3, g4, g5, g6, g7, g8⟩ := chk_ok HX.out.1
    simp only at g1 g2 g3 g4 g5 g6 g7
    rw [HF.out.1] at g1 g2 g7
    clear g8
    obtain ⟨r, rfl⟩ := Int.eq_ofNat_of_zero_le g3
    go_enter Try.func28, Try.ntmps28
    go_wp2_with fail
    rw [← HW1.out]
    have hck := HX.out.2.2.1 c W1
    rw [HE.out, HF.out.1, HX.out.1] at hck
    (with_reducible refine hck.mono ?_)
    rintro e w2 ⟨v, rfl, rfl, hb2⟩
    clear hck
    have hbx2 := hbxW.keep hb2 (by omega)
    have hown2 := own_below hownW hb2
    have hb02 : Below w.heap.size w w2 := hbW.trans (hb2.mono hbW.size)
    have hs2 : w.heap.size + 2 ≤ w2.heap.size := Nat.le_trans hsW hb2.size
    clear hbxW hownW hb2 hbW hsW
    have hbx2' := hbx2
    obtain ⟨hc0, hc1, hc2, hc3⟩ := hbx2'
    go_wp2_with fail
    have hrt := HX.out.2.2.2 w2 (by rw [HF.out.1]; exact ha.below hb02) (by rw [HF.out.1]; omega) HF.out.2
    rw [HE.out, HF.out.1] at hrt
    (with_reducible refine hrt.mono ?_)
    rintro e w3 ⟨v, rfl, rfl, hb3⟩
    clear hrt hc0 hc1 hc2 hc3
    have hbx3 := hbx2.keep hb3 (by omega)
    have hown3 := own_below hown2 hb3
    have hb03 : Below w.heap.size w w3 := hb02.trans (hb3.mono hb02.size)
    have hs3 : w.heap.size + 2 ≤ w3.heap.size := Nat.le_trans hs2 hb3.size
    clear hbx2 hown2 hb3 hb02 hs2
    have htl := Pl.wordsB_len t
    rw [HF.out.1] at htl
    simp only at htl ⊢
    obtain ⟨tx, htx⟩ : ∃ tx, Pl.wordsB t = tx := ⟨_, rfl⟩
    rw [htx] at htl ⊢
    have htl1 : tx.length ≤ 4 * n := by omega
    have HT := Lib.hid (And.intro htx htl); clear htx htl
    go_wp2_with fail
    obtain ⟨R1, hR1⟩ : ∃ R, Pl.rlay [] 0 tx false = R := ⟨_, rfl⟩
    have hR1' : R1 = Pl.spread (Pl.pgs tx.length) [] tx false := by rw [← hR1]; exact Pl.rlay_text [] tx false
    have hp1 : Pl.pgs tx.length ≤ 100 := by unfold Pl.pgs; omega
    have hR1l : R1.length ≤ 100 := by rw [hR1', Pl.spread_len]; simp; omega
    (with_reducible refine (rlay_at (w.heap.size + 1) _ 0 0 [] R1 0 0 tx false _ rfl rfl hR1 hown3 (by omega) (by omega) (by omega) (by omega)).mono ?_)
    rintro e w4 ⟨A4, c4, rfl, hown4, hb4⟩
    have HR1 := Lib.hid hR1'; clear hR1 hR1'
    have hbx4 := hbx3.keep hb4 (by omega)
    have hb04 : Below w.heap.size w w4 := hb03.trans (hb4.mono (by omega))
    have hs4 : w.heap.size + 2 ≤ w4.heap.size := Nat.le_trans hs3 hb4.size
    clear hbx3 hown3 hb4 hb03 hs3
    obtain ⟨hc0, hc1, hc2, hc3⟩ := hbx4
    obtain ⟨R2, hR2⟩ : ∃ R, Pl.rlay R1 R1.length (d ++ Pl.zs r) true = R := ⟨_, rfl⟩
    have hR2' : R2 = Pl.spread (Pl.pgs (d.length + r)) R1 d true := by rw [← hR2]; exact Pl.rlay_data R1 d r true
    have hp2 : Pl.pgs (d.length + r) ≤ 100 := by unfold Pl.pgs; omega
    have hR2l : R2.length ≤ 200 := by rw [hR2', Pl.spread_len]; omega
    have HR2 := Lib.hid (And.intro hR2 hR2'); clear hR2 hR2'
    have hcat : ¬ 9223372036854775807 < d.length + r := by omega
    have hown4' := own_below hown4 ((Below.refl _ _).drew)
    have hdb : Below (w.heap.size + 1) w4 w4.drew := (Below.refl _ _).drew
    have hz := fun W : World => zeros_any r W (by omega)
    have hll : (d ++ Pl.zs r).length ≤ 100000 := by rw [List.length_append, Pl.zs_len]; omega
    have HZ := Lib.hid (And.intro hz hll); clear hz hll
    have q1 : w.heap.size + 1 ≤ w4.drew.heap.size := by show w.heap.size + 1 ≤ w4.heap.size; omega
    have q2 : R1.length ≤ 1000 := by omega
    have q3 : (R1.length : Int) ≤ 1000 := by omega
    go_wp2_with fail
    go_region_held3 (fun w' => w'.cell? ⟨w.heap.size, 1, none⟩ = some (.string ⟨d.toArray⟩) ∧ w'.cell? ⟨w.heap.size, 2, none⟩ = some (.int .i64 r))
      (exact ⟨(hdb.cell (p := ⟨w.heap.size, 1, none⟩) (Nat.lt_succ_self _)).trans hc1, (hdb.cell (p := ⟨w.heap.size, 2, none⟩) (Nat.lt_succ_self _)).trans hc2⟩)
      (first
        | (go_at_call 51; (with_reducible refine (HZ.out.1 _).mono ?_); rintro e w5 ⟨rfl, rfl⟩)
        | (go_at_call 49; (with_reducible refine (rlay_at (w.heap.size + 1) A4 c4 _ R1 R2 R1.length _ (d ++ Pl.zs r) true _ rfl rfl HR2.out.1 hown4' q1 q2 HZ.out.2 q3).mono ?_); rintro e w5 ⟨A5, c5, rfl, hown5, hb5⟩; replace hdb := hdb.trans hb5))
    clear hc0 hc1 hc2 hc3
    rename_i hHeld
    clear hHeld
    have hb05 : Below w.heap.size w w5 := hb04.trans (hdb.mono (by omega))
    have hs5 : w.heap.size + 2 ≤ w5.heap.size := Nat.le_trans hs4 hdb.size
    have HI := Lib.hid info_lay
    go_wp2_with fail
    (with_reducible refine (zeros_int _ _ ?_ ?_).mono ?_)
    · omega
    · omega
    rintro e w6 ⟨rfl, rfl⟩
    rw [show (128 : Int).toNat = 128 from rfl]
    go_wp2_with (at_builtin; refine push3 rfl (.tmp 24) (.tmp 27) 45 rfl (w.heap.size + 1) 49 _ 32 Try.underlying45 HI.out rfl _ _ _ _ _ _ _ rfl hown5 rfl rfl rfl rfl (by omega) (by omega) (by omega) ?_; intro A6 c6 w6 hown6 hb6)
    go_ret2
    have hLL : R2 ++ [⟨15, Pl.zs 128, true⟩] = Pl.lays ⟨t, d, r, entry⟩ := by
      unfold Pl.lays
      simp only [Int.toNat_natCast]
      rw [HF.out.1, HT.out.1, ← HT.out.2, ← HR1.out, ← HR2.out.2]
    have hle : (Pl.lays ⟨t, d, r, entry⟩).length = R2.length + 1 := by rw [← hLL]; simp
    refine ⟨_, rfl, ⟨A6, c6, ?_, ?_⟩, hb05.trans (hb6.mono (by omega))⟩
    · rw [HX.out.1, if_pos rfl, hle]; rfl
    · rw [if_pos HX.out.1, hle]
      have h1 := Rd.own hown6
      have h2 : layCs (Pl.lays ⟨t, d, r, entry⟩) = layCs R2 ++ [.int .i64 15, .string ⟨(Pl.zs 128).toArray⟩, .bool true] := by rw [← hLL, layCs_snoc]; rfl
      rw [h2]; exact h1
  · go_enter Try.func28, Try.ntmps28
    go_wp2_with fail
    rw [← HW1.out]
    have hck := HX.out.2.2.1 c W1
    rw [HE.out, HF.out.1, HX.out.1] at hck
    (with_reducible refine hck.mono ?_)
    rintro e w2 ⟨v, rfl, rfl, hb2⟩
    clear hck
    go_wp2_with fail
    go_ret2
    refine ⟨_, rfl, ⟨some ⟨w.heap.size + 1, 0, none⟩, 0, ?_, ?_⟩, hbW.trans (hb2.mono hbW.size)⟩
    · rw [HX.out.1]; rfl
    · rw [HX.out.1]; exact Rd.zero
end Go.Proofs.Ytplhmhclcfclhaa
