/- The document's quote and list (chapter 11). The document's list of a program (chapter 11). -/
import Derived.Test.YtmmnkoeajdeldaaGreatDoorAsLt
import Derived.Test.YtmmnkoeajdeldaaGreatDoorRx10
import Derived.Test.YtmmnkoeajdeldaaGreatDoorRd10
namespace Go.Proofs.YtmmnkoeajdeldaaGreatDoor
open Go.RowKit
set_option linter.unusedVariables false
set_option linter.unusedSimpArgs false
attribute [local go_sem] ba_get ba_cut ba_add
theorem conv_one (W : World) (c : UInt8) (x : Nat) (h : c.toNat = x) : (convert 59 9 (.slice (some ⟨W.heap.size, 0, none⟩) 1 1)).run Tryz.prog (W.alloc (.cells #[.int .u8 (x : Int)] 5)) = .ok (.string ⟨#[c]⟩) (W.alloc (.cells #[.int .u8 (x : Int)] 5)) := by
  subst h
  exact own_conv (bl := [c]) (own_lit1 W 0 [.int .u8 (c.toNat : Int)] 5 1 rfl (Nat.zero_le _) (by decide))
theorem conv_two (W : World) (a b : UInt8) : (convert 59 9 (.slice (some ⟨W.heap.size, 0, none⟩) 2 2)).run Tryz.prog (W.alloc (.cells #[.int .u8 (a.toNat : Int), .int .u8 (b.toNat : Int)] 5)).drew = .ok (.string ⟨#[a, b]⟩) (W.alloc (.cells #[.int .u8 (a.toNat : Int), .int .u8 (b.toNat : Int)] 5)).drew :=
  own_conv (bl := [a, b]) (own_lit1 W 0 [.int .u8 (a.toNat : Int), .int .u8 (b.toNat : Int)] 5 2 rfl (Nat.zero_le _) (by decide)).drew
set_option maxRecDepth 100000 in
set_option maxHeartbeats 2000000 in
theorem rquote_any (s : List UInt8) (hs : s.length ≤ 100000) (w : World) : Calls Tryz.prog 49 #[.string ⟨s.toArray⟩] w (RetB (fun v _ => v = .string ⟨(Pl.quoT s).toArray⟩) w) := by
  go_enter Tryz.func49, Tryz.ntmps49
  go_wp2_with fail
  go_loopw [3, 5] (fun v i wr => ∃ (k : Nat) (bl : List UInt8), k ≤ s.length ∧ i = .int .i64 (k : Int) ∧ v = .string ⟨bl.toArray⟩ ∧ bl.length ≤ 1 + 4 * k ∧ Hid (Below w.heap.size w wr ∧ bl = 34 :: Pl.quoB (s.take k))) (fun _ i _ => s.length - (intOf i).toNat)
  case atStart => exact ⟨0, [34], by omega, rfl, rfl, by simp, Lib.hid ⟨Below.refl _ _, by simp [Pl.quoB]⟩⟩
  case round =>
    obtain ⟨k, bl, hk, rfl, rfl, hbl, HB⟩ := hrel
    by_cases hkn : k < s.length
    · have hqs := quoB_snoc s k hkn
      obtain ⟨c, hc⟩ : ∃ c, s[k] = c := ⟨_, rfl⟩
      have hix : ∀ W', (Instr.index 9 (.string ⟨s.toArray⟩) (.int .i64 (k : Int))).run Tryz.prog W' = .ok (.int .u8 (c.toNat : Int)) W' := by
        intro W'
        rw [← hc]
        simp [go_sem, hkn]
      have hcl := c.toNat_lt
      rw [hc] at hqs
      have hb8 : bl.length ≤ 400001 := by omega
      obtain ⟨x, hx⟩ : ∃ x, c.toNat = x := ⟨_, rfl⟩
      rw [hx] at hix hcl
      have hc1 := fun W => conv_one W c x hx
      have HC := Lib.hid (And.intro hqs hx)
      clear hqs hc hx
      by_cases h2 : x = 10
      · have hq : Pl.qB c = [92, 110] := by unfold Pl.qB; rw [HC.out.2, if_neg (by omega), if_pos h2]
        have HQ := Lib.hid hq
        clear hq hc1
        subst h2
        go_wp2_with fail
        exact ⟨⟨k + 1, bl ++ [92, 110], by omega, ret_i (by omega), rfl, by simp; omega, Lib.hid ⟨HB.out.1, by rw [HB.out.2, HC.out.1, HQ.out]; rfl⟩⟩, by simp only [intOf]; omega⟩
      have e10 : ((x : Int) == 10) = false := by rw [beq_eq_false_iff_ne]; omega
      by_cases h1 : x = 34 ∨ x = 92
      · have hq : Pl.qB c = [92, c] := by unfold Pl.qB; rw [HC.out.2, if_pos h1]
        have HQ := Lib.hid hq
        clear hq
        by_cases h34 : x = 34
        · have e34 : ((x : Int) == 34) = true := by rw [beq_iff_eq]; omega
          clear h34 h1 h2
          go_wp2_with fail
          exact ⟨⟨k + 1, bl ++ [92, c], by omega, ret_i (by omega), by simp, by simp; omega, Lib.hid ⟨HB.out.1.alloc HB.out.1.size _, by rw [HB.out.2, HC.out.1, HQ.out]; rfl⟩⟩, by simp only [intOf]; omega⟩
        · have e34 : ((x : Int) == 34) = false := by rw [beq_eq_false_iff_ne]; omega
          have e92 : ((x : Int) == 92) = true := by rw [beq_iff_eq]; omega
          clear h34 h1 h2
          go_wp2_with fail
          exact ⟨⟨k + 1, bl ++ [92, c], by omega, ret_i (by omega), by simp, by simp; omega, Lib.hid ⟨HB.out.1.alloc HB.out.1.size _, by rw [HB.out.2, HC.out.1, HQ.out]; rfl⟩⟩, by simp only [intOf]; omega⟩
      have e34 : ((x : Int) == 34) = false := by rw [beq_eq_false_iff_ne]; omega
      have e92 : ((x : Int) == 92) = false := by rw [beq_eq_false_iff_ne]; omega
      by_cases h3 : 32 ≤ x ∧ x ≤ 126
      · have hq : Pl.qB c = [c] := by unfold Pl.qB; rw [HC.out.2, if_neg h1, if_neg h2, if_pos h3]
        have HQ := Lib.hid hq
        obtain ⟨g1, g2⟩ := h3
        have g3 : ¬ (x : Int) < 32 := by omega
        have g4 : ¬ (126 : Int) < (x : Int) := by omega
        clear hq h1 h2
        go_wp2_with fail
        exact ⟨⟨k + 1, bl ++ [c], by omega, ret_i (by omega), rfl, by simp; omega, Lib.hid ⟨HB.out.1.alloc HB.out.1.size _, by rw [HB.out.2, HC.out.1, HQ.out]; rfl⟩⟩, by simp only [intOf]; omega⟩
      have hq : Pl.qB c = [92, 120, Pl.hexC (x / 16), Pl.hexC (x % 16)] := by unfold Pl.qB; rw [HC.out.2, if_neg h1, if_neg h2, if_neg h3]
      have HQ := Lib.hid hq
      have h3' : x < 32 ∨ 126 < x := by omega
      clear hq h3 h1 h2
      have hix1 : ∀ W', (Instr.index 9 (.string ⟨#[48, 49, 50, 51, 52, 53, 54, 55, 56, 57, 97, 98, 99, 100, 101, 102]⟩) (.int .u8 ((x : Int) / 16))).run Tryz.prog W' = .ok (.int .u8 ((Pl.hexC (x / 16)).toNat : Int)) W' := fun W' => hex_at _ _ (by omega) (by omega) W'
      have hix2 : ∀ W', (Instr.index 9 (.string ⟨#[48, 49, 50, 51, 52, 53, 54, 55, 56, 57, 97, 98, 99, 100, 101, 102]⟩) (.int .u8 ((x : Int) % 16))).run Tryz.prog W' = .ok (.int .u8 ((Pl.hexC (x % 16)).toNat : Int)) W' := fun W' => hex_at _ _ (by omega) (by omega) W'
      have hwq : IntKind.u8.wrap ((x : Int) / 16) = (x : Int) / 16 := by rw [IntKind.wrap_u8]; omega
      have htm : (x : Int).tmod 16 = (x : Int) % 16 := Int.tmod_eq_emod_of_nonneg (by omega)
      have hwm : IntKind.u8.wrap ((x : Int) % 16) = (x : Int) % 16 := by rw [IntKind.wrap_u8]; omega
      obtain ⟨ca, hca⟩ : ∃ z, Pl.hexC (x / 16) = z := ⟨_, rfl⟩
      obtain ⟨cb, hcb⟩ : ∃ z, Pl.hexC (x % 16) = z := ⟨_, rfl⟩
      rw [hca] at hix1
      rw [hcb] at hix2
      have HE := Lib.hid (And.intro hca hcb)
      have hc2 := fun W => conv_two W ca cb
      have k1 : ¬ 9223372036854775807 < bl.length + 2 := by omega
      have k2 : ¬ 9223372036854775807 < bl.length + 2 + 2 := by omega
      have k3 : ¬ 9223372036854775807 < bl.length + (2 + 2) := by omega
      clear hca hcb hc1
      rcases h3' with g1 | g1
      all_goals
        first
          | (have g3 : (x : Int) < 32 := by omega)
          | (have g3 : ¬ (x : Int) < 32 := by omega)
        first
          | (have g4 : (126 : Int) < (x : Int) := by omega)
          | skip
        go_upto_region 12 with (fail)
        refine wp_region_held_drew (S := (fun _ => True)) (by kernel_rfl) trivial (fun hHeld => ?_)
        refine wpAnyH_take (i := 0) (v := ?_) rfl (by kernel_rfl) (by kernel_rfl) (by kernel_rfl) (fun _ _ _ h => h) (Or.inl ⟨by kernel_rfl, ?_⟩) hHeld ?_
        rotate_left
        · (intro w' hSw; (try dsimp only at hSw); go_simp; try with_reducible rfl)
        simp only [Act.put, List.setIfInBounds_toArray, List.set_cons_zero, List.set_cons_succ, List.getElem_toArray, List.getElem_cons_succ, List.getElem_cons_zero]
        refine wpAnyH_take (i := 1) (v := ?_) rfl (by kernel_rfl) (by kernel_rfl) (by kernel_rfl) (fun _ _ _ h => h) (Or.inl ⟨by kernel_rfl, ?_⟩) hHeld ?_
        rotate_left
        · (intro w' hSw; (try dsimp only at hSw); go_simp; try with_reducible rfl)
        simp only [Act.put, List.setIfInBounds_toArray, List.set_cons_zero, List.set_cons_succ, List.getElem_toArray, List.getElem_cons_succ, List.getElem_cons_zero]
        refine wpAnyH_take (i := 2) (v := ?_) rfl (by kernel_rfl) (by kernel_rfl) (by kernel_rfl) (fun _ _ _ h => h) (Or.inl ⟨by kernel_rfl, ?_⟩) hHeld ?_
        rotate_left
        · (intro w' hSw; (try dsimp only at hSw); go_simp; try with_reducible rfl)
        simp only [Act.put, List.setIfInBounds_toArray, List.set_cons_zero, List.set_cons_succ, List.getElem_toArray, List.getElem_cons_succ, List.getElem_cons_zero]
        refine wpAnyH_take (i := 3) (v := ?_) rfl (by kernel_rfl) (by kernel_rfl) (by kernel_rfl) (fun _ _ _ h => h) (Or.inl ⟨by kernel_rfl, ?_⟩) hHeld ?_
        rotate_left
        · (intro w' hSw; (try dsimp only at hSw); go_simp; try with_reducible rfl)
        simp only [Act.put, List.setIfInBounds_toArray, List.set_cons_zero, List.set_cons_succ, List.getElem_toArray, List.getElem_cons_succ, List.getElem_cons_zero]
        refine wpAnyH_take (i := 4) (v := ?_) rfl (by kernel_rfl) (by kernel_rfl) (by kernel_rfl) (fun _ _ _ h => h) (Or.inl ⟨by kernel_rfl, ?_⟩) hHeld ?_
        rotate_left
        · (intro w' hSw; (try dsimp only at hSw); go_simp; try with_reducible rfl)
        simp only [Act.put, List.setIfInBounds_toArray, List.set_cons_zero, List.set_cons_succ, List.getElem_toArray, List.getElem_cons_succ, List.getElem_cons_zero]
        refine wpAnyH_take (i := 5) (v := ?_) rfl (by kernel_rfl) (by kernel_rfl) (by kernel_rfl) (fun _ _ _ h => h) (Or.inl ⟨by kernel_rfl, ?_⟩) hHeld ?_
        rotate_left
        · (intro w' hSw; (try dsimp only at hSw); go_simp; try with_reducible rfl)
        simp only [Act.put, List.setIfInBounds_toArray, List.set_cons_zero, List.set_cons_succ, List.getElem_toArray, List.getElem_cons_succ, List.getElem_cons_zero]
        refine wpAnyH_take (i := 6) (v := ?_) rfl (by kernel_rfl) (by kernel_rfl) (by kernel_rfl) (fun _ _ _ h => h) (Or.inl ⟨by kernel_rfl, ?_⟩) hHeld ?_
        rotate_left
        · (intro w' hSw; (try dsimp only at hSw); go_simp; try with_reducible rfl)
        simp only [Act.put, List.setIfInBounds_toArray, List.set_cons_zero, List.set_cons_succ, List.getElem_toArray, List.getElem_cons_succ, List.getElem_cons_zero]
        refine wpAnyH_take (i := 7) (v := ?_) rfl (by kernel_rfl) (by kernel_rfl) (by kernel_rfl) (fun _ _ _ h => h) (Or.inl ⟨by kernel_rfl, ?_⟩) hHeld ?_
        rotate_left
        · (intro w' hSw; (try dsimp only at hSw); go_simp; try with_reducible rfl)
        simp only [Act.put, List.setIfInBounds_toArray, List.set_cons_zero, List.set_cons_succ, List.getElem_toArray, List.getElem_cons_succ, List.getElem_cons_zero]
        refine wpAnyH_take (i := 8) (v := ?_) rfl (by kernel_rfl) (by kernel_rfl) (by kernel_rfl) (fun _ _ _ h => h) (Or.inl ⟨by kernel_rfl, ?_⟩) hHeld ?_
        rotate_left
        · (intro w' hSw; (try dsimp only at hSw); go_simp; try with_reducible rfl)
        simp only [Act.put, List.setIfInBounds_toArray, List.set_cons_zero, List.set_cons_succ, List.getElem_toArray, List.getElem_cons_succ, List.getElem_cons_zero]
        refine wpAnyH_take (i := 9) (v := ?_) rfl (by kernel_rfl) (by kernel_rfl) (by kernel_rfl) (fun _ _ _ h => h) (Or.inl ⟨by kernel_rfl, ?_⟩) hHeld ?_
        rotate_left
        · (intro w' hSw; (try dsimp only at hSw); go_simp; try with_reducible rfl)
        simp only [Act.put, List.setIfInBounds_toArray, List.set_cons_zero, List.set_cons_succ, List.getElem_toArray, List.getElem_cons_succ, List.getElem_cons_zero]
        refine wpAnyH_ready (rs := [10]) (by kernel_rfl) (by simp) (AllReadyH.cons rfl (fun K hK => ?_) AllReadyH.nil)
        go_simp
        refine hK.out _ _ trivial (fun hHeld => ?_)
        clear hK K
        (try simp only [Act.put, List.setIfInBounds_toArray, List.set_cons_zero, List.set_cons_succ, List.getElem_toArray, List.getElem_cons_succ, List.getElem_cons_zero])
        refine wpAnyH_ready (rs := [11]) (by kernel_rfl) (by simp) (AllReadyH.cons rfl (fun K hK => ?_) AllReadyH.nil)
        go_simp
        refine hK.out _ _ trivial (fun hHeld => ?_)
        clear hK K
        (try simp only [Act.put, List.setIfInBounds_toArray, List.set_cons_zero, List.set_cons_succ, List.getElem_toArray, List.getElem_cons_succ, List.getElem_cons_zero])
        refine wpAnyH_take (i := 12) (v := ?_) rfl (by kernel_rfl) (by kernel_rfl) (by kernel_rfl) (fun _ _ _ h => h) (Or.inl ⟨by kernel_rfl, ?_⟩) hHeld ?_
        rotate_left
        · (intro w' hSw; (try dsimp only at hSw); go_simp; try with_reducible rfl)
        simp only [Act.put, List.setIfInBounds_toArray, List.set_cons_zero, List.set_cons_succ, List.getElem_toArray, List.getElem_cons_succ, List.getElem_cons_zero]
        refine wpAnyH_take (i := 13) (v := ?_) rfl (by kernel_rfl) (by kernel_rfl) (by kernel_rfl) (fun _ _ _ h => h) (Or.inl ⟨by kernel_rfl, ?_⟩) hHeld ?_
        rotate_left
        · (intro w' hSw; (try dsimp only at hSw); go_simp; try with_reducible rfl)
        simp only [Act.put, List.setIfInBounds_toArray, List.set_cons_zero, List.set_cons_succ, List.getElem_toArray, List.getElem_cons_succ, List.getElem_cons_zero]
        refine wpAnyH_done (by kernel_rfl) ?_ _
        go_wp2_with fail
        exact ⟨⟨k + 1, bl ++ [92, 120, ca, cb], by omega, ret_i (by omega), by simp, by simp; omega, Lib.hid ⟨(HB.out.1.alloc HB.out.1.size _).drew, by rw [HB.out.2, HC.out.1, HQ.out, HE.out.1, HE.out.2]; rfl⟩⟩, by simp only [intOf]; omega⟩
    · have hbe : bl = 34 :: Pl.quoB s := by rw [HB.out.2, List.take_of_length_le (by omega)]
      have hb8 : bl.length ≤ 400001 := by omega
      have HE := Lib.hid hbe
      clear hbe
      go_wp2_with fail
      go_ret
      refine ⟨_, rfl, ?_, HB.out.1⟩
      show Value.string _ = Value.string _
      rw [HE.out]
      rfl
end Go.Proofs.YtmmnkoeajdeldaaGreatDoor
namespace Go.Proofs.YtmmnkoeajdeldaaGreatDoor
open Go.RowKit
set_option linter.unusedVariables false
set_option linter.unusedSimpArgs false
attribute [local go_sem] ba_get ba_cut ba_add
set_option maxRecDepth 100000 in
theorem four_any (n : Nat) (v : Int) (hv : v = (n : Int)) (w : World) (h : n ≤ 4611686018427387000) : Calls Tryz.prog 46 #[.int .i64 v] w (Ret (.int .i64 (Pl.up n 4 : Nat)) w) := by
  subst hv
  have h1 : IntKind.i64.wrap ((n : Int) + 3) = (n : Int) + 3 := IntWalk.i64_in _ (by omega)
  have h2 : IntKind.i64.wrap (((n : Int) + 3) / 4 * 4) = ((n : Int) + 3) / 4 * 4 := IntWalk.i64_in _ (by omega)
  have h3 : ((Pl.up n 4 : Nat) : Int) = ((n : Int) + 3) / 4 * 4 := by unfold Pl.up; omega
  have h4 : IntKind.i64.wrap (((n : Int) + 3) / 4) = ((n : Int) + 3) / 4 := IntWalk.i64_in _ (by omega)
  have h5 : ((n : Int) + 3).tdiv 4 = ((n : Int) + 3) / 4 := Int.tdiv_eq_ediv_of_nonneg (by omega)
  rw [h3]
  go_enter Tryz.func46, Tryz.ntmps46
  go_wp2_with fail
  go_ret
  exact ⟨rfl, rfl⟩
set_option maxRecDepth 100000 in
set_option maxHeartbeats 4000000 in
theorem rlist_any (A : Option Addr) (c : Nat) (X : Pl.Exe) (w : World) (h : XeOk X) (hr : Rd w 1 A X.text.length (w32s X.text)) : Calls Tryz.prog 17 #[xeV A c X] w (RetB (fun v _ => v = .string ⟨(Pl.listT X).toArray⟩) w) := by
  obtain ⟨R, hR⟩ : ∃ R, Pl.listT X = R := ⟨_, rfl⟩
  rw [hR]
  have hLb : Pl.listB X = decide (0 ≤ X.room ∧ X.room ≤ 65536 ∧ X.text.length ≤ 150 ∧ X.data.length ≤ 8000 ∧ (0 < X.room → (Pl.padN X.data.length : Int) ≤ X.room) ∧ (X.entry = 0 ∨ X.entry % 4 = 0 ∧ X.entry / 4 < X.text.length)) := rfl
  have hno : Pl.listB X = false → R = [] := fun e => by rw [← hR]; unfold Pl.listT; rw [e]; rfl
  have HX := Lib.hid (And.intro hR (And.intro h.w hr))
  clear hR hr
  obtain ⟨t, d, ro, en⟩ := X
  obtain ⟨h1, h2, h3, h4, h5, -⟩ := h
  unfold xeV
  dsimp only at h1 h2 h3 h4 h5 hLb ⊢
  have hup := fun W => four_any d.length (d.length : Int) rfl W (by omega)
  have hp3 : Pl.up d.length 4 = d.length + Pl.padN d.length ∧ Pl.padN d.length ≤ 3 := by unfold Pl.padN Pl.up; omega
  obtain ⟨p, hp⟩ : ∃ p, Pl.padN d.length = p := ⟨_, rfl⟩
  rw [hp] at hp3 hLb
  rw [hp3.1] at hup
  have hsub : IntKind.i64.wrap (((d.length + p : Nat) : Int) - (d.length : Int)) = (p : Int) := by rw [IntKind.wrap_i64]; omega
  obtain ⟨n, hn⟩ : ∃ n, t.length = n := ⟨_, rfl⟩
  rw [hn] at h1 hLb ⊢
  have HN := Lib.hid (And.intro hn hp)
  have HU := Lib.hid hup
  clear hup hn hp
  have hpp := hp3.2
  clear hp3
  obtain ⟨du, hdu⟩ : ∃ z, d.length + p = z := ⟨_, rfl⟩
  rw [hdu] at HU hsub
  clear hdu
  have HLB := Lib.hid (And.intro hLb hno)
  clear hLb hno
  go_enter Tryz.func17, Tryz.ntmps17
  go_upto_region 1 with (fail)
  obtain ⟨B, hB⟩ : ∃ B, w.heap.size = B := ⟨_, rfl⟩
  obtain ⟨w1, hw1⟩ : ∃ V, w.alloc (.cells #[.slice A n c, .string ⟨d.toArray⟩, .int .i64 ro, .int .u32 (en : Int)] 26) = V := ⟨_, rfl⟩
  have hz1 : w1.heap[B]? = some (.cells #[.slice A n c, .string ⟨d.toArray⟩, .int .i64 ro, .int .u32 (en : Int)] 26 (0, 0)) := by rw [← hw1, ← hB]; exact heap_alloc_new _ _
  have hb1 : Below w.heap.size w w1 := by rw [← hw1]; exact (Below.refl _ _).alloc (Nat.le_refl _) _
  rw [hw1, hB]
  have hB1 : B < w1.heap.size := blk_lt hz1
  obtain ⟨x0, x1, x2, x3⟩ := xeA_cells hz1
  have hS1 : ExAt w1 B A n c d ro en := ⟨x0, x1, x2, x3⟩
  have H1 := Lib.hid (And.intro hS1 (And.intro hb1 hB1))
  clear hw1 hz1 hb1 hB1 hS1 x0 x1 x2 x3
  refine wp_region_held_drew (S := (fun w' => ExAt w' B A n c d ro en)) (by kernel_rfl) (by exact H1.out.1.drew) (fun hHeld => ?_)
  refine wpAnyH_take (i := 0) (v := ?_) rfl (by kernel_rfl) (by kernel_rfl) (by kernel_rfl) (fun _ _ _ h => h) (Or.inl ⟨by kernel_rfl, ?_⟩) hHeld ?_
  rotate_left
  · (intro w' hSw; obtain ⟨hS0, hS1, hS2, hS3⟩ := hSw; go_simp; try with_reducible rfl)
  simp only [Act.put, List.setIfInBounds_toArray, List.set_cons_zero, List.set_cons_succ, List.getElem_toArray, List.getElem_cons_succ, List.getElem_cons_zero]
  refine wpAnyH_take (i := 1) (v := ?_) rfl (by kernel_rfl) (by kernel_rfl) (by kernel_rfl) (fun _ _ _ h => h) (Or.inl ⟨by kernel_rfl, ?_⟩) hHeld ?_
  rotate_left
  · (intro w' hSw; obtain ⟨hS0, hS1, hS2, hS3⟩ := hSw; go_simp; try with_reducible rfl)
  simp only [Act.put, List.setIfInBounds_toArray, List.set_cons_zero, List.set_cons_succ, List.getElem_toArray, List.getElem_cons_succ, List.getElem_cons_zero]
  refine wpAnyH_take (i := 2) (v := ?_) rfl (by kernel_rfl) (by kernel_rfl) (by kernel_rfl) (fun _ _ _ h => h) (Or.inl ⟨by kernel_rfl, ?_⟩) hHeld ?_
  rotate_left
  · (intro w' hSw; obtain ⟨hS0, hS1, hS2, hS3⟩ := hSw; go_simp; try with_reducible rfl)
  simp only [Act.put, List.setIfInBounds_toArray, List.set_cons_zero, List.set_cons_succ, List.getElem_toArray, List.getElem_cons_succ, List.getElem_cons_zero]
  refine wpAnyH_take (i := 4) (v := ?_) rfl (by kernel_rfl) (by kernel_rfl) (by kernel_rfl) (fun _ _ _ h => h) (Or.inl ⟨by kernel_rfl, ?_⟩) hHeld ?_
  rotate_left
  · (intro w' hSw; obtain ⟨hS0, hS1, hS2, hS3⟩ := hSw; go_simp; try with_reducible rfl)
  simp only [Act.put, List.setIfInBounds_toArray, List.set_cons_zero, List.set_cons_succ, List.getElem_toArray, List.getElem_cons_succ, List.getElem_cons_zero]
  refine wpAnyH_take (i := 5) (v := ?_) rfl (by kernel_rfl) (by kernel_rfl) (by kernel_rfl) (fun _ _ _ h => h) (Or.inl ⟨by kernel_rfl, ?_⟩) hHeld ?_
  rotate_left
  · (intro w' hSw; obtain ⟨hS0, hS1, hS2, hS3⟩ := hSw; go_simp; try with_reducible rfl)
  simp only [Act.put, List.setIfInBounds_toArray, List.set_cons_zero, List.set_cons_succ, List.getElem_toArray, List.getElem_cons_succ, List.getElem_cons_zero]
  refine wpAnyH_take (i := 6) (v := ?_) rfl (by kernel_rfl) (by kernel_rfl) (by kernel_rfl) (fun _ _ _ h => h) (Or.inl ⟨by kernel_rfl, ?_⟩) hHeld ?_
  rotate_left
  · (intro w' hSw; obtain ⟨hS0, hS1, hS2, hS3⟩ := hSw; go_simp; try with_reducible rfl)
  simp only [Act.put, List.setIfInBounds_toArray, List.set_cons_zero, List.set_cons_succ, List.getElem_toArray, List.getElem_cons_succ, List.getElem_cons_zero]
  refine wpAnyH_ready (rs := [3]) (by kernel_rfl) (by simp) (AllReadyH.cons rfl (fun K hK => ?_) AllReadyH.nil)
  go_simp
  refine (HU.out _).mono ?_
  rintro y w2 ⟨rfl, rfl⟩
  refine hK.out _ _ (by exact H1.out.1.drew) (fun hHeld => ?_)
  clear hK K
  (try simp only [Act.put, List.setIfInBounds_toArray, List.set_cons_zero, List.set_cons_succ, List.getElem_toArray, List.getElem_cons_succ, List.getElem_cons_zero])
  refine wpAnyH_take (i := 7) (v := ?_) rfl (by kernel_rfl) (by kernel_rfl) (by kernel_rfl) (fun _ _ _ h => h) (Or.inl ⟨by kernel_rfl, ?_⟩) hHeld ?_
  rotate_left
  · (intro w' hSw; obtain ⟨hS0, hS1, hS2, hS3⟩ := hSw; go_simp; try with_reducible rfl)
  simp only [Act.put, List.setIfInBounds_toArray, List.set_cons_zero, List.set_cons_succ, List.getElem_toArray, List.getElem_cons_succ, List.getElem_cons_zero]
  refine wpAnyH_take (i := 8) (v := ?_) rfl (by kernel_rfl) (by kernel_rfl) (by kernel_rfl) (fun _ _ _ h => h) (Or.inl ⟨by kernel_rfl, ?_⟩) hHeld ?_
  rotate_left
  · (intro w' hSw; obtain ⟨hS0, hS1, hS2, hS3⟩ := hSw; go_simp; try with_reducible rfl)
  simp only [Act.put, List.setIfInBounds_toArray, List.set_cons_zero, List.set_cons_succ, List.getElem_toArray, List.getElem_cons_succ, List.getElem_cons_zero]
  refine wpAnyH_done (by kernel_rfl) ?_ _
  obtain ⟨w3, hw3⟩ : ∃ V, w1.drew = V := ⟨_, rfl⟩
  have hS3 : ExAt w3 B A n c d ro en := by rw [← hw3]; exact H1.out.1.drew
  have hb3 : Below w.heap.size w w3 := by rw [← hw3]; exact H1.out.2.1.drew
  have hB3 : B < w3.heap.size := by rw [← hw3]; exact H1.out.2.2
  rw [hw3]
  obtain ⟨x0, x1, x2, x3⟩ := hS3
  have H3 := Lib.hid (And.intro (show ExAt w3 B A n c d ro en from ⟨x0, x1, x2, x3⟩) (And.intro hb3 hB3))
  clear hw3 hb3 hB3 hHeld
  by_cases c1 : ro < 0
  · have hR0 : R = [] := HLB.out.2 (by rw [HLB.out.1]; exact decide_eq_false (by omega))
    subst hR0
    go_wp2_with fail
    go_ret
    exact ⟨_, rfl, rfl, H3.out.2.1⟩
  by_cases c2 : 65536 < ro
  · have hR0 : R = [] := HLB.out.2 (by rw [HLB.out.1]; exact decide_eq_false (by omega))
    subst hR0
    go_wp2_with fail
    go_ret
    exact ⟨_, rfl, rfl, H3.out.2.1⟩
  by_cases c3 : 150 < n
  · have hR0 : R = [] := HLB.out.2 (by rw [HLB.out.1]; exact decide_eq_false (by omega))
    subst hR0
    go_wp2_with fail
    go_ret
    exact ⟨_, rfl, rfl, H3.out.2.1⟩
  by_cases c4 : 8000 < d.length
  · have hR0 : R = [] := HLB.out.2 (by rw [HLB.out.1]; exact decide_eq_false (by omega))
    subst hR0
    go_wp2_with fail
    go_ret
    exact ⟨_, rfl, rfl, H3.out.2.1⟩
  by_cases c5 : en % 4 ≠ 0
  · have hR0 : R = [] := HLB.out.2 (by rw [HLB.out.1]; exact decide_eq_false (by omega))
    subst hR0
    have m0 : ((en : Int) % 4 != 0) = true := by rw [bne_iff_ne]; omega
    clear c5
    go_wp2_with fail
    go_ret
    exact ⟨_, rfl, rfl, H3.out.2.1⟩
  have m0 : ((en : Int) % 4 != 0) = false := by simp; omega
  by_cases c6 : 0 < en ∧ n ≤ en / 4
  · have hR0 : R = [] := HLB.out.2 (by rw [HLB.out.1]; exact decide_eq_false (by omega))
    subst hR0
    have m1 : (0 : Int) < (en : Int) := by omega
    have m2 : (n : Int) ≤ (en : Int) / 4 := by omega
    clear c5 c6
    go_wp2_with fail
    go_ret
    exact ⟨_, rfl, rfl, H3.out.2.1⟩
  by_cases c7 : 0 < ro ∧ ro < (p : Int)
  · have hR0 : R = [] := HLB.out.2 (by rw [HLB.out.1]; exact decide_eq_false (by omega))
    subst hR0
    obtain ⟨c8, c9⟩ := c7
    by_cases c10 : en = 0
    · have m1 : ¬ (0 : Int) < (en : Int) := by omega
      clear c5 c6 c10
      go_wp2_with fail
      go_ret
      exact ⟨_, rfl, rfl, H3.out.2.1⟩
    · have m1 : (0 : Int) < (en : Int) := by omega
      have m2 : ¬ (n : Int) ≤ (en : Int) / 4 := by omega
      clear c5 c6 c10
      go_wp2_with fail
      go_ret
      exact ⟨_, rfl, rfl, H3.out.2.1⟩
  have hlb : Pl.listB ⟨t, d, ro, en⟩ = true := by rw [HLB.out.1]; exact decide_eq_true (by omega)
  have HLT := Lib.hid hlb
  clear hlb HLB
  have hc6 : ∀ k, (en ≠ 0 ∧ en / 4 = k) ↔ (0 < en ∧ en = 4 * k) := fun k => by omega
  have l5 : 0 < ro → (p : Int) ≤ ro := by omega
  have HC6 := Lib.hid (And.intro hc6 (show en = 0 ∨ (0 < en ∧ en / 4 < n) by omega))
  have m3 : decide ((150 : Int) < (n : Int)) = false := decide_eq_false (by omega)
  have m4 : decide ((8000 : Int) < (d.length : Int)) = false := decide_eq_false (by omega)
  clear hc6 c5 c6 c7
  go_upto_region 2 with (fail)
  go_cut [67] from 16 to 67 (fun s67 wx => s67 = .bool false ∧ w3 = wx)
  case first =>
    rcases HC6.out.2 with e0 | ⟨e0, e1⟩
    · have m1 : ¬ (0 : Int) < (en : Int) := by omega
      clear e0
      by_cases r0 : 0 < ro
      · have r1 : ¬ ro < (p : Int) := by omega
        go_wp2_with fail
        go_meet
        case rel => exact ⟨rfl, rfl⟩
      · go_wp2_with fail
        go_meet
        case rel => exact ⟨rfl, rfl⟩
    · have m1 : (0 : Int) < (en : Int) := by omega
      have m2 : ¬ (n : Int) ≤ (en : Int) / 4 := by omega
      clear e0 e1
      by_cases r0 : 0 < ro
      · have r1 : ¬ ro < (p : Int) := by omega
        go_wp2_with fail
        go_meet
        case rel => exact ⟨rfl, rfl⟩
      · go_wp2_with fail
        go_meet
        case rel => exact ⟨rfl, rfl⟩
  case rest =>
    obtain ⟨rfl, rfl⟩ := hcut
    clear m0 m3 m4 x0 x1 x2 x3
    go_wp2_with fail
    go_loopw [4, 5] (fun s i wr => ∃ (k : Nat), k ≤ n ∧ i = .int .i64 (k : Int) ∧ s = .string ⟨(txK en t k).toArray⟩ ∧ Hid (Below w3.heap.size w3 wr)) (fun _ i _ => n - (intOf i).toNat)
    case atStart => exact ⟨0, by omega, rfl, rfl, Lib.hid (Below.refl _ _)⟩
    case round =>
      obtain ⟨k, hk, rfl, rfl, HB⟩ := hrel
      have hwr : Below w.heap.size w wr := H3.out.2.1.trans (HB.out.mono H3.out.2.1.size)
      obtain ⟨x0, x1, x2, x3⟩ := H3.out.1.below HB.out H3.out.2.2
      by_cases hkn : k < n
      · have hkl : k < t.length := by rw [HN.out.1]; exact hkn
        have hrk := HX.out.2.2.below hwr
        try dsimp only at hrk
        obtain ⟨bb, off, hAe, hbl, hcell⟩ := hrk.at1 (by rw [HN.out.1]; exact hkn)
        subst hAe
        have hc2 : (w32s t)[k]? = some (.int .u32 (t[k] : Int)) := w32_at t k hkl
        rw [hc2] at hcell
        have hy0 := HX.out.2.1 t[k] (List.getElem_mem hkl)
        have hsn := txK_succ en t k hkl
        have hlen := txK_len en t k HX.out.2.1 (by omega)
        obtain ⟨y, hy⟩ : ∃ y, t[k] = y := ⟨_, rfl⟩
        rw [hy] at hcell hsn hy0
        have hlw := (Pl.lineW_ok y hy0).2
        obtain ⟨Xk, hXk⟩ : ∃ z, txK en t k = z := ⟨_, rfl⟩
        rw [hXk] at hsn hlen ⊢
        have h4k : IntKind.i64.wrap (4 * (k : Int)) = 4 * (k : Int) := IntWalk.i64_in _ (by omega)
        have HY := Lib.hid (And.intro hsn hlw)
        have hd := fun W => rdec_any y W hy0
        unfold decV at hd
        clear hc2 hy hXk hsn hrk hwr x1 x2
        by_cases hst : en ≠ 0 ∧ en / 4 = k
        · have hst2 := (HC6.out.1 k).1 hst
          have g1 : (0 : Int) < (en : Int) := by omega
          have g2 : ((en : Int) == 4 * (k : Int)) = true := by rw [beq_iff_eq]; omega
          have HA := Lib.hid (show txK en t (k + 1) = Xk ++ ([115, 116, 97, 114, 116, 58, 10] ++ (Pl.lineW y ++ [10])) by rw [HY.out.1, if_pos hst]; simp [Pl.startT, Pl.wStart])
          clear hst2 hst
          cases hok : Pl.decOk y with
          | true =>
            have hio := decX_ok hok
            have hT : Pl.lineW y = Pl.textI (Pl.decX y) := by unfold Pl.lineW; rw [if_pos hok]
            rw [hok] at hd
            have hlw := HY.out.2
            rw [hT] at hlw HA
            simp only [if_true] at hd
            obtain ⟨x, hx⟩ : ∃ x, Pl.decX y = x := ⟨_, rfl⟩
            rw [hx] at hd hio hlw HA
            have hte := fun W => rtext_any x W hio
            obtain ⟨T, hTT⟩ : ∃ T, Pl.textI x = T := ⟨_, rfl⟩
            rw [hTT] at hlw HA hte
            obtain ⟨op, xa, xb, xc, imm⟩ := x
            unfold insV at hd hte
            simp only at hd hte
            have HD := Lib.hid hd
            have HT := Lib.hid hte
            clear hd hte hio hx hTT hT hok
            go_wp2_with fail
            refine (HD.out _).mono ?_
            rintro e wc ⟨v, rfl, rfl, hbc⟩
            have HBC := Lib.hid (HB.out.trans (hbc.mono HB.out.size))
            clear hbc
            go_wp2_with fail
            obtain ⟨wd, hwd⟩ : ∃ V, wc.alloc (.cells #[.int .u8 (op : Int), .int .u8 (xa : Int), .int .u8 (xb : Int), .int .u8 (xc : Int), .int .i32 imm] 33) = V := ⟨_, rfl⟩
            have hbd : Below wc.heap.size wc wd := by rw [← hwd]; exact (Below.refl _ _).alloc (Nat.le_refl _) _
            have HBD := Lib.hid (HBC.out.trans (hbd.mono HBC.out.size))
            rw [hwd]
            clear hwd hbd
            refine (HT.out _).mono ?_
            rintro e we ⟨v, rfl, rfl, hbe⟩
            have HBE := Lib.hid (HBD.out.trans (hbe.mono HBD.out.size))
            clear hbe
            go_wp2_with fail
            exact ⟨⟨k + 1, by omega, ret_i (by omega), by rw [HA.out]; simp, HBE⟩, by simp only [intOf]; omega⟩
          | false =>
            have hT : Pl.lineW y = [114, 97, 119, 32] ++ Lib.itoa (y : Int) := by unfold Pl.lineW; rw [hok]; rfl
            rw [hok] at hd
            rw [hT] at HA
            simp only [Bool.false_eq_true, if_false] at hd
            have HD := Lib.hid hd
            have hfu := fun W => rdec11_any y (by omega) W
            have hyl := (Pl.itoa_len (v := (y : Int)) ⟨by omega, by omega⟩).2
            obtain ⟨iy, hiy⟩ : ∃ z, Lib.itoa (y : Int) = z := ⟨_, rfl⟩
            rw [hiy] at hyl hfu HA
            have HFU := Lib.hid hfu
            clear hd hT hok hfu hiy
            go_wp2_with fail
            refine (HD.out _).mono ?_
            rintro e wc ⟨v, rfl, rfl, hbc⟩
            have HBC := Lib.hid (HB.out.trans (hbc.mono HB.out.size))
            have hcellc := (hbc.cell (p := ⟨bb, off + k, none⟩) hbl).trans hcell
            have hblc := Nat.lt_of_lt_of_le hbl hbc.size
            clear hbc x0 x3 hcell
            go_upto_region 13 with (fail)
            obtain ⟨wd, hwd⟩ : ∃ V, wc.alloc (.cells #[.int .u8 0, .int .u8 0, .int .u8 0, .int .u8 0, .int .i32 0] 33) = V := ⟨_, rfl⟩
            have hbd : Below wc.heap.size wc wd := by rw [← hwd]; exact (Below.refl _ _).alloc (Nat.le_refl _) _
            have HBD := Lib.hid (HBC.out.trans (hbd.mono HBC.out.size))
            obtain ⟨z0, z1, z2, z3⟩ := H3.out.1.below HBD.out H3.out.2.2
            have hcelld := (hbd.cell (p := ⟨bb, off + k, none⟩) hblc).trans hcellc
            rw [hwd]
            clear hwd hbd hcellc hblc
            go_wp2_with fail
            refine (HFU.out _).mono ?_
            rintro e we ⟨rfl, rfl⟩
            go_wp2_with fail
            exact ⟨⟨k + 1, by omega, ret_i (by omega), by rw [HA.out]; simp, HBD⟩, by simp only [intOf]; omega⟩
        · have hst2 := fun e => hst ((HC6.out.1 k).2 e)
          have HA := Lib.hid (show txK en t (k + 1) = Xk ++ ([] ++ (Pl.lineW y ++ [10])) by rw [HY.out.1, if_neg hst])
          by_cases he0 : en = 0
          · have g1 : ¬ (0 : Int) < (en : Int) := by omega
            clear he0 hst2 hst
            cases hok : Pl.decOk y with
            | true =>
              have hio := decX_ok hok
              have hT : Pl.lineW y = Pl.textI (Pl.decX y) := by unfold Pl.lineW; rw [if_pos hok]
              rw [hok] at hd
              have hlw := HY.out.2
              rw [hT] at hlw HA
              simp only [if_true] at hd
              obtain ⟨x, hx⟩ : ∃ x, Pl.decX y = x := ⟨_, rfl⟩
              rw [hx] at hd hio hlw HA
              have hte := fun W => rtext_any x W hio
              obtain ⟨T, hTT⟩ : ∃ T, Pl.textI x = T := ⟨_, rfl⟩
              rw [hTT] at hlw HA hte
              obtain ⟨op, xa, xb, xc, imm⟩ := x
              unfold insV at hd hte
              simp only at hd hte
              have HD := Lib.hid hd
              have HT := Lib.hid hte
              clear hd hte hio hx hTT hT hok
              go_wp2_with fail
              refine (HD.out _).mono ?_
              rintro e wc ⟨v, rfl, rfl, hbc⟩
              have HBC := Lib.hid (HB.out.trans (hbc.mono HB.out.size))
              clear hbc
              go_wp2_with fail
              obtain ⟨wd, hwd⟩ : ∃ V, wc.alloc (.cells #[.int .u8 (op : Int), .int .u8 (xa : Int), .int .u8 (xb : Int), .int .u8 (xc : Int), .int .i32 imm] 33) = V := ⟨_, rfl⟩
              have hbd : Below wc.heap.size wc wd := by rw [← hwd]; exact (Below.refl _ _).alloc (Nat.le_refl _) _
              have HBD := Lib.hid (HBC.out.trans (hbd.mono HBC.out.size))
              rw [hwd]
              clear hwd hbd
              refine (HT.out _).mono ?_
              rintro e we ⟨v, rfl, rfl, hbe⟩
              have HBE := Lib.hid (HBD.out.trans (hbe.mono HBD.out.size))
              clear hbe
              go_wp2_with fail
              exact ⟨⟨k + 1, by omega, ret_i (by omega), by rw [HA.out]; simp, HBE⟩, by simp only [intOf]; omega⟩
            | false =>
              have hT : Pl.lineW y = [114, 97, 119, 32] ++ Lib.itoa (y : Int) := by unfold Pl.lineW; rw [hok]; rfl
              rw [hok] at hd
              rw [hT] at HA
              simp only [Bool.false_eq_true, if_false] at hd
              have HD := Lib.hid hd
              have hfu := fun W => rdec11_any y (by omega) W
              have hyl := (Pl.itoa_len (v := (y : Int)) ⟨by omega, by omega⟩).2
              obtain ⟨iy, hiy⟩ : ∃ z, Lib.itoa (y : Int) = z := ⟨_, rfl⟩
              rw [hiy] at hyl hfu HA
              have HFU := Lib.hid hfu
              clear hd hT hok hfu hiy
              go_wp2_with fail
              refine (HD.out _).mono ?_
              rintro e wc ⟨v, rfl, rfl, hbc⟩
              have HBC := Lib.hid (HB.out.trans (hbc.mono HB.out.size))
              have hcellc := (hbc.cell (p := ⟨bb, off + k, none⟩) hbl).trans hcell
              have hblc := Nat.lt_of_lt_of_le hbl hbc.size
              clear hbc x0 x3 hcell
              go_upto_region 13 with (fail)
              obtain ⟨wd, hwd⟩ : ∃ V, wc.alloc (.cells #[.int .u8 0, .int .u8 0, .int .u8 0, .int .u8 0, .int .i32 0] 33) = V := ⟨_, rfl⟩
              have hbd : Below wc.heap.size wc wd := by rw [← hwd]; exact (Below.refl _ _).alloc (Nat.le_refl _) _
              have HBD := Lib.hid (HBC.out.trans (hbd.mono HBC.out.size))
              obtain ⟨z0, z1, z2, z3⟩ := H3.out.1.below HBD.out H3.out.2.2
              have hcelld := (hbd.cell (p := ⟨bb, off + k, none⟩) hblc).trans hcellc
              rw [hwd]
              clear hwd hbd hcellc hblc
              go_wp2_with fail
              refine (HFU.out _).mono ?_
              rintro e we ⟨rfl, rfl⟩
              go_wp2_with fail
              exact ⟨⟨k + 1, by omega, ret_i (by omega), by rw [HA.out]; simp, HBD⟩, by simp only [intOf]; omega⟩
          · have g1 : (0 : Int) < (en : Int) := by omega
            have g2 : ((en : Int) == 4 * (k : Int)) = false := by rw [beq_eq_false_iff_ne]; intro e; exact hst2 ⟨by omega, by omega⟩
            clear he0 hst2 hst
            cases hok : Pl.decOk y with
            | true =>
              have hio := decX_ok hok
              have hT : Pl.lineW y = Pl.textI (Pl.decX y) := by unfold Pl.lineW; rw [if_pos hok]
              rw [hok] at hd
              have hlw := HY.out.2
              rw [hT] at hlw HA
              simp only [if_true] at hd
              obtain ⟨x, hx⟩ : ∃ x, Pl.decX y = x := ⟨_, rfl⟩
              rw [hx] at hd hio hlw HA
              have hte := fun W => rtext_any x W hio
              obtain ⟨T, hTT⟩ : ∃ T, Pl.textI x = T := ⟨_, rfl⟩
              rw [hTT] at hlw HA hte
              obtain ⟨op, xa, xb, xc, imm⟩ := x
              unfold insV at hd hte
              simp only at hd hte
              have HD := Lib.hid hd
              have HT := Lib.hid hte
              clear hd hte hio hx hTT hT hok
              go_wp2_with fail
              refine (HD.out _).mono ?_
              rintro e wc ⟨v, rfl, rfl, hbc⟩
              have HBC := Lib.hid (HB.out.trans (hbc.mono HB.out.size))
              clear hbc
              go_wp2_with fail
              obtain ⟨wd, hwd⟩ : ∃ V, wc.alloc (.cells #[.int .u8 (op : Int), .int .u8 (xa : Int), .int .u8 (xb : Int), .int .u8 (xc : Int), .int .i32 imm] 33) = V := ⟨_, rfl⟩
              have hbd : Below wc.heap.size wc wd := by rw [← hwd]; exact (Below.refl _ _).alloc (Nat.le_refl _) _
              have HBD := Lib.hid (HBC.out.trans (hbd.mono HBC.out.size))
              rw [hwd]
              clear hwd hbd
              refine (HT.out _).mono ?_
              rintro e we ⟨v, rfl, rfl, hbe⟩
              have HBE := Lib.hid (HBD.out.trans (hbe.mono HBD.out.size))
              clear hbe
              go_wp2_with fail
              exact ⟨⟨k + 1, by omega, ret_i (by omega), by rw [HA.out]; simp, HBE⟩, by simp only [intOf]; omega⟩
            | false =>
              have hT : Pl.lineW y = [114, 97, 119, 32] ++ Lib.itoa (y : Int) := by unfold Pl.lineW; rw [hok]; rfl
              rw [hok] at hd
              rw [hT] at HA
              simp only [Bool.false_eq_true, if_false] at hd
              have HD := Lib.hid hd
              have hfu := fun W => rdec11_any y (by omega) W
              have hyl := (Pl.itoa_len (v := (y : Int)) ⟨by omega, by omega⟩).2
              obtain ⟨iy, hiy⟩ : ∃ z, Lib.itoa (y : Int) = z := ⟨_, rfl⟩
              rw [hiy] at hyl hfu HA
              have HFU := Lib.hid hfu
              clear hd hT hok hfu hiy
              go_wp2_with fail
              refine (HD.out _).mono ?_
              rintro e wc ⟨v, rfl, rfl, hbc⟩
              have HBC := Lib.hid (HB.out.trans (hbc.mono HB.out.size))
              have hcellc := (hbc.cell (p := ⟨bb, off + k, none⟩) hbl).trans hcell
              have hblc := Nat.lt_of_lt_of_le hbl hbc.size
              clear hbc x0 x3 hcell
              go_upto_region 13 with (fail)
              obtain ⟨wd, hwd⟩ : ∃ V, wc.alloc (.cells #[.int .u8 0, .int .u8 0, .int .u8 0, .int .u8 0, .int .i32 0] 33) = V := ⟨_, rfl⟩
              have hbd : Below wc.heap.size wc wd := by rw [← hwd]; exact (Below.refl _ _).alloc (Nat.le_refl _) _
              have HBD := Lib.hid (HBC.out.trans (hbd.mono HBC.out.size))
              obtain ⟨z0, z1, z2, z3⟩ := H3.out.1.below HBD.out H3.out.2.2
              have hcelld := (hbd.cell (p := ⟨bb, off + k, none⟩) hblc).trans hcellc
              rw [hwd]
              clear hwd hbd hcellc hblc
              go_wp2_with fail
              refine (HFU.out _).mono ?_
              rintro e we ⟨rfl, rfl⟩
              go_wp2_with fail
              exact ⟨⟨k + 1, by omega, ret_i (by omega), by rw [HA.out]; simp, HBD⟩, by simp only [intOf]; omega⟩
      · have hkn2 : k = n := by omega
        have hlen := txK_len en t k HX.out.2.1 (by omega)
        have hP : Pl.listT ⟨t, d, ro, en⟩ = txK en t k ++ ((if d = [] then [] else Pl.dataL d ++ [10]) ++ (if ro = 0 then [] else Pl.roomL (ro - (p : Int)) ++ [10])) := by
          unfold Pl.listT
          rw [HLT.out, if_pos rfl]
          unfold Pl.linesX txK Pl.dataLs Pl.roomLs
          rw [List.take_of_length_le (by rw [HN.out.1]; omega), Pl.joinN_app, Pl.joinN_app]
          dsimp only
          rw [HN.out.2]
          congr 2
          · split <;> simp [Pl.joinN]
          · split <;> simp [Pl.joinN]
        rw [HX.out.1] at hP
        obtain ⟨Xk, hXk⟩ : ∃ z, txK en t k = z := ⟨_, rfl⟩
        rw [hXk] at hP hlen ⊢
        have HP := Lib.hid (And.intro hP hwr)
        clear hP hXk hwr
        by_cases hd0 : d = []
        · have hdi : d.isEmpty = true := by rw [hd0]; rfl
          have HQ := Lib.hid (show (if d = [] then [] else Pl.dataL d ++ [10]) = ([] : List UInt8) from if_pos hd0)
          have HV := Lib.hid (show Below w3.heap.size w3 wr from HB.out)
          obtain ⟨wv, hwv⟩ : ∃ z, wr = z := ⟨_, rfl⟩
          subst hwv
          obtain ⟨y0, y1, y2, y3⟩ := H3.out.1.below HV.out H3.out.2.2
          clear hd0
          by_cases hr0 : ro = 0
          · have hri : ¬ 0 < ro := by omega
            have HR := Lib.hid (show (if ro = 0 then [] else Pl.roomL (ro - (p : Int)) ++ [10]) = ([] : List UInt8) from if_pos hr0)
            clear hr0 l5
            go_wp2_with fail
            have hfin : R = _ := HP.out.1
            rw [HQ.out, HR.out] at hfin
            go_ret
            refine ⟨_, rfl, ?_, H3.out.2.1.trans (HV.out.mono H3.out.2.1.size)⟩
            show Value.string _ = Value.string ⟨R.toArray⟩
            rw [hfin]
            try simp
          · have hri : 0 < ro := by omega
            have hpr : (p : Int) ≤ ro := l5 hri
            have hsb : IntKind.i64.wrap (ro - (p : Int)) = ro - (p : Int) := IntWalk.i64_in _ (by omega)
            have hrr : (if ro = 0 then [] else Pl.roomL (ro - (p : Int)) ++ [10]) = (114 :: 111 :: 111 :: 109 :: 32 :: 114 :: 111 :: 111 :: 109 :: 32 :: (Lib.itoa (ro - (p : Int)) ++ [10])) := by rw [if_neg hr0]; simp [Pl.roomL, Pl.wRoom]
            have hfu : ∀ W, Calls Tryz.prog 14 #[.int .i64 (ro - (p : Int))] W (Ret (.string ⟨(Lib.itoa (ro - (p : Int))).toArray⟩) W) := fun W => by
              have := rdec11_any (ro - (p : Int)).toNat (by omega) W
              rwa [show (((ro - (p : Int)).toNat : Nat) : Int) = ro - (p : Int) by omega] at this
            have hil := (Pl.itoa_len (v := ro - (p : Int)) ⟨by omega, by omega⟩).2
            obtain ⟨It, hIt⟩ : ∃ z, Lib.itoa (ro - (p : Int)) = z := ⟨_, rfl⟩
            rw [hIt] at hil hrr hfu
            have HR := Lib.hid hrr
            have HFU := Lib.hid hfu
            clear hIt hrr hfu hr0
            go_wp2_with fail
            refine (HFU.out _).mono ?_
            rintro e wz ⟨rfl, rfl⟩
            go_wp2_with fail
            have hfin : R = _ := HP.out.1
            rw [HQ.out, HR.out] at hfin
            go_ret
            refine ⟨_, rfl, ?_, H3.out.2.1.trans (HV.out.mono H3.out.2.1.size)⟩
            show Value.string _ = Value.string ⟨R.toArray⟩
            rw [hfin]
            try simp
        · have hdi : d.isEmpty = false := by cases d with
            | nil => exact absurd rfl hd0
            | cons a r => rfl
          have hqd : (if d = [] then [] else Pl.dataL d ++ [10]) = (116 :: 101 :: 120 :: 116 :: 32 :: 100 :: 97 :: 116 :: 97 :: 32 :: (Pl.quoT d ++ [10])) := by rw [if_neg hd0]; simp [Pl.dataL, Pl.wText, Pl.wData]
          have hql : (Pl.quoT d).length ≤ 32010 := by have := (Pl.quoB_ok d).2; simp [Pl.quoT]; omega
          have hqq := fun W => rquote_any d (by omega) W
          obtain ⟨Qt, hQt⟩ : ∃ z, Pl.quoT d = z := ⟨_, rfl⟩
          rw [hQt] at hql hqd hqq
          have HQ := Lib.hid hqd
          have HQQ := Lib.hid hqq
          clear hQt hqd hqq hd0
          go_wp2_with fail
          refine (HQQ.out _).mono ?_
          rintro e wv ⟨v, rfl, rfl, hbv⟩
          have HV := Lib.hid (HB.out.trans (hbv.mono HB.out.size))
          obtain ⟨y0, y1, y2, y3⟩ := H3.out.1.below HV.out H3.out.2.2
          clear hbv x0 x1 x2 x3
          by_cases hr0 : ro = 0
          · have hri : ¬ 0 < ro := by omega
            have HR := Lib.hid (show (if ro = 0 then [] else Pl.roomL (ro - (p : Int)) ++ [10]) = ([] : List UInt8) from if_pos hr0)
            clear hr0 l5
            go_wp2_with fail
            have hfin : R = _ := HP.out.1
            rw [HQ.out, HR.out] at hfin
            go_ret
            refine ⟨_, rfl, ?_, H3.out.2.1.trans (HV.out.mono H3.out.2.1.size)⟩
            show Value.string _ = Value.string ⟨R.toArray⟩
            rw [hfin]
            try simp
          · have hri : 0 < ro := by omega
            have hpr : (p : Int) ≤ ro := l5 hri
            have hsb : IntKind.i64.wrap (ro - (p : Int)) = ro - (p : Int) := IntWalk.i64_in _ (by omega)
            have hrr : (if ro = 0 then [] else Pl.roomL (ro - (p : Int)) ++ [10]) = (114 :: 111 :: 111 :: 109 :: 32 :: 114 :: 111 :: 111 :: 109 :: 32 :: (Lib.itoa (ro - (p : Int)) ++ [10])) := by rw [if_neg hr0]; simp [Pl.roomL, Pl.wRoom]
            have hfu : ∀ W, Calls Tryz.prog 14 #[.int .i64 (ro - (p : Int))] W (Ret (.string ⟨(Lib.itoa (ro - (p : Int))).toArray⟩) W) := fun W => by
              have := rdec11_any (ro - (p : Int)).toNat (by omega) W
              rwa [show (((ro - (p : Int)).toNat : Nat) : Int) = ro - (p : Int) by omega] at this
            have hil := (Pl.itoa_len (v := ro - (p : Int)) ⟨by omega, by omega⟩).2
            obtain ⟨It, hIt⟩ : ∃ z, Lib.itoa (ro - (p : Int)) = z := ⟨_, rfl⟩
            rw [hIt] at hil hrr hfu
            have HR := Lib.hid hrr
            have HFU := Lib.hid hfu
            clear hIt hrr hfu hr0
            go_wp2_with fail
            refine (HFU.out _).mono ?_
            rintro e wz ⟨rfl, rfl⟩
            go_wp2_with fail
            have hfin : R = _ := HP.out.1
            rw [HQ.out, HR.out] at hfin
            go_ret
            refine ⟨_, rfl, ?_, H3.out.2.1.trans (HV.out.mono H3.out.2.1.size)⟩
            show Value.string _ = Value.string ⟨R.toArray⟩
            rw [hfin]
            try simp
end Go.Proofs.YtmmnkoeajdeldaaGreatDoor
