/- The walk of exe.Lay: the pages that a program begins with, or the error. -/
import Derived.Test.YtplhmhclcfclhaaLayW1
import Derived.Laws.EntriesVeiled
namespace Go.Proofs.Ytplhmhclcfclhaa
open Go.RowKit
attribute [local go_sem] ba_get ba_add

/-- A list of pages that the call made, and an error beside it. -/
def LayOut (x : Pl.Exe) (v : Value) (w : World) : Prop := ∃ A c, v = .tuple #[.slice A (if Pl.chk x = 0 then Pl.lays x else []).length c, .int .i64 (Pl.chk x : Int)] ∧ Rd w 3 A (if Pl.chk x = 0 then Pl.lays x else []).length (layCs (if Pl.chk x = 0 then Pl.lays x else []))

set_option maxRecDepth 100000 in
set_option maxHeartbeats 1000000 in
theorem lay_any (A : Option Addr) (c : Nat) (x : Pl.Exe) (w : World) (hx : ExeOk x) (ha : Rd w 1 A x.text.length (u32s x.text)) (ht : ∀ y ∈ x.text, y < 4294967296) :
    Calls Try.prog 27 #[exeV A c x] w (RetB (LayOut x) w) := by
  obtain ⟨k, hk⟩ : ∃ k, Pl.chk x = k := ⟨_, rfl⟩
  have hk01 : k = 0 ∨ k = 1 := by rw [← hk]; unfold Pl.chk; split <;> simp
  have hck := fun (c : Nat) (w : World) => check_any A c x w hx
  have HX := Lib.hid (And.intro hk (And.intro hx hck)); clear hk hx hck
  obtain ⟨t, d, room, entry⟩ := x
  simp only at ha ht
  have hev : exeV A c ⟨t, d, room, entry⟩ = .agg #[.slice A t.length c, .string ⟨d.toArray⟩, .int .i64 room, .int .u32 (entry : Int)] := rfl
  rw [hev]
  have HE := Lib.hid hev; clear hev
  obtain ⟨n, hnl⟩ : ∃ n, t.length = n := ⟨_, rfl⟩
  rw [hnl] at ha ⊢
  have HF := Lib.hid (And.intro hnl ht); clear hnl ht
  rcases hk01 with rfl | rfl
  · obtain ⟨g1, g2, g3, g4, g5, g6, g7, g8⟩ := chk_ok HX.out.1
    simp only at g1 g2 g3 g4 g5 g6 g7
    rw [HF.out.1] at g1 g2 g7
    clear g8
    obtain ⟨r, rfl⟩ := Int.eq_ofNat_of_zero_le g3
    go_enter Try.func27, Try.ntmps27
    go_wp2_with fail
    have hck := HX.out.2.2 c (w.alloc (.cells #[.slice A n c, .string ⟨d.toArray⟩, .int .i64 r, .int .u32 (entry : Int)] 43))
    rw [HE.out, HF.out.1, HX.out.1] at hck
    (with_reducible refine hck.mono ?_)
    rintro e w1 ⟨v, rfl, rfl, hb1⟩
    clear hck
    have hbw1 : Below w.heap.size w w1 := ((Below.refl _ _).alloc (Nat.le_refl _) _).trans (hb1.mono (by simp))
    have hbox := (Box4.new w (.slice A n c) (.string ⟨d.toArray⟩) (.int .i64 r) (.int .u32 (entry : Int)) 43).keep hb1 (by simp)
    have hsz : w.heap.size < w1.heap.size := by have := hb1.size; simp at this; omega
    have ha1 := ha.below hbw1
    clear hb1
    have hbox' := hbox
    obtain ⟨hc0, hc1, hc2, hc3⟩ := hbox'
    go_wp2_with fail
    obtain ⟨W2, hW2⟩ : ∃ W2, W2 = (w1.alloc (.cells #[.slice none 0 0] 45)).alloc (.cells #[.func (.func 44) #[] #[.pointer (some ⟨w1.heap.size, 0, none⟩)]] 82) := ⟨_, rfl⟩
    have hst2 : LaySt w1.heap.size W2 none 0 [] := by
      rw [hW2]
      refine ⟨?_, ?_, World.ownsRow_nil _ _ _ _⟩
      · rw [Below.heap_alloc _ _ _ (by simp)]; exact heap_alloc_new w1 _
      · have := heap_alloc_new (w1.alloc (.cells #[.slice none 0 0] 45)) (.cells #[.func (.func 44) #[] #[.pointer (some ⟨w1.heap.size, 0, none⟩)]] 82)
        simpa using this
    have hb2 : Below w1.heap.size w1 W2 := by
      rw [hW2]; exact ((Below.refl _ _).alloc (Nat.le_refl _) _).alloc (by simp) _
    rw [← hW2]
    clear hW2
    (with_reducible refine (words_any A n c t _ (ha1.below hb2) (by omega) HF.out.2).mono ?_)
    rintro e w3 ⟨v, rfl, rfl, hb3⟩
    have hst3 := hst2.below hb3
    have hb13 := hb2.trans (hb3.mono hb2.size)
    clear hst2 hb2 hb3 hc0 hc1 hc2 hc3
    have hwl := Pl.wordsB_len t
    rw [HF.out.1] at hwl
    obtain ⟨tx, htx⟩ : ∃ tx, Pl.wordsB t = tx := ⟨_, rfl⟩
    rw [htx] at hwl ⊢
    have htl : tx.length ≤ 4 * n := by omega
    have HW := Lib.hid (And.intro htx hwl); clear htx hwl
    go_wp2_with fail
    (with_reducible refine (pages_any _ _ ?_ ?_).mono ?_)
    · omega
    · omega
    rintro e w4 ⟨rfl, rfl⟩
    rw [Pl.pgs_int]
    have hp1 : Pl.pgs tx.length ≤ 100 := by unfold Pl.pgs; omega
    go_wp2_with fail
    (with_reducible refine (lay2_any w1.heap.size tx (Pl.pgs tx.length) false _ none 0 [] hst3 (by omega) (by simp; omega)).mono ?_)
    rintro e w5 ⟨rfl, ⟨A5, c5, hst5⟩, hb5⟩
    have hb15 := hb13.trans hb5
    obtain ⟨hc0, hc1, hc2, hc3⟩ := hbox.keep hb15 hsz
    have e1 : IntKind.i64.wrap ((d.length : Int) + r) = (d.length : Int) + r := IntWalk.i64_in _ (by omega)
    have p1 : (0 : Int) ≤ (d.length : Int) + r := by omega
    have p2 : (d.length : Int) + r ≤ 9223372036854775000 := by omega
    have hp2 : Pl.pgs (d.length + r) ≤ 100 := by unfold Pl.pgs; omega
    have hsl5 := Pl.spread_len (Pl.pgs tx.length) [] tx false
    have hsl6 : (Pl.spread (Pl.pgs tx.length) [] tx false).length ≤ 100 := by rw [hsl5]; simp; exact hp1
    clear hsl5
    have hpg := fun W : World => pages_any ((d.length : Int) + r) W p1 p2
    have hpe : Pl.pagesN ((d.length : Int) + r) = ((Pl.pgs (d.length + r) : Nat) : Int) := by rw [← Pl.pgs_int]; simp
    rw [hpe] at hpg
    clear hpe
    have HPG := Lib.hid hpg; clear hpg
    have hstD := hst5.drew
    have hdb : Below w1.heap.size w5 w5.drew := (Below.refl _ _).drew
    go_wp2_with fail
    go_region_held3 (fun w' => w'.cell? ⟨w.heap.size, 1, none⟩ = some (.string ⟨d.toArray⟩) ∧ w'.cell? ⟨w.heap.size, 2, none⟩ = some (.int .i64 r))
      (exact ⟨(hdb.cell (p := ⟨w.heap.size, 1, none⟩) hsz).trans hc1, (hdb.cell (p := ⟨w.heap.size, 2, none⟩) hsz).trans hc2⟩)
      (first
        | (go_at_call 48; (with_reducible refine (HPG.out _).mono ?_); rintro e w6 ⟨rfl, rfl⟩)
        | (go_at_call 46; (with_reducible refine (lay2_any w1.heap.size d (Pl.pgs (d.length + r)) true _ A5 c5 _ hstD (by omega) (by omega)).mono ?_); rintro e w6 ⟨rfl, ⟨A6, c6, hst6⟩, hb6⟩; replace hdb := hdb.trans hb6))
    have hlc1 := hst6.cell1
    clear hc0 hc1 hc2 hc3
    rename_i hHeld
    clear hHeld
    have hsl7 : (Pl.spread (Pl.pgs (d.length + r)) (Pl.spread (Pl.pgs tx.length) [] tx false) d true).length ≤ 200 := by rw [Pl.spread_len]; omega
    go_wp2_with fail
    (with_reducible refine (lay1_any w1.heap.size 15 [] true _ A6 c6 _ hst6 (by simp) (by omega)).mono ?_)
    rintro e w7 ⟨rfl, ⟨A7, c7, hst7⟩, hb7⟩
    have hlc7 := hst7.cell0
    have hLL : Pl.spread (Pl.pgs (d.length + r)) (Pl.spread (Pl.pgs tx.length) [] tx false) d true ++ [⟨15, Pl.padP [], true⟩] = Pl.lays ⟨t, d, r, entry⟩ := by
      unfold Pl.lays
      simp only [Int.toNat_natCast]
      rw [HF.out.1, HW.out.1, ← HW.out.2]
      rfl
    rw [hLL] at hlc7 hst7
    obtain ⟨LL, hle⟩ : ∃ LL, Pl.lays ⟨t, d, r, entry⟩ = LL := ⟨_, rfl⟩
    rw [hle] at hlc7 hst7
    have HLE := Lib.hid hle; clear hle hLL
    go_wp2_with fail
    go_ret2
    refine ⟨_, rfl, ⟨A7, c7, ?_, ?_⟩, hbw1.trans (((hb15.trans hdb).trans hb7).mono hbw1.size)⟩
    · rw [HX.out.1, if_pos rfl, HLE.out]; rfl
    · rw [if_pos HX.out.1, HLE.out]; exact Rd.own hst7.2.2
  · go_enter Try.func27, Try.ntmps27
    go_wp2_with fail
    have hck := HX.out.2.2 c (w.alloc (.cells #[.slice A n c, .string ⟨d.toArray⟩, .int .i64 room, .int .u32 (entry : Int)] 43))
    rw [HE.out, HF.out.1, HX.out.1] at hck
    (with_reducible refine hck.mono ?_)
    rintro e w1 ⟨v, rfl, rfl, hb1⟩
    clear hck
    go_wp2_with fail
    go_ret2
    refine ⟨_, rfl, ⟨none, 0, ?_, ?_⟩, ((Below.refl _ _).alloc (Nat.le_refl _) _).trans (hb1.mono (by simp))⟩
    · rw [HX.out.1]; rfl
    · rw [HX.out.1]; exact Rd.nil
end Go.Proofs.Ytplhmhclcfclhaa
