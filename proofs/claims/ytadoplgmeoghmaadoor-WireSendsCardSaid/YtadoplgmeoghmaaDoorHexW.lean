/- The walks of hash's Hex and the document's: a digest's text; the document's digest of 32 bytes. -/
import Derived.Test.YtadoplgmeoghmaaDoorMfPl2
import Derived.Test.YtadoplgmeoghmaaDoorHashW
import Derived.Test.YtadoplgmeoghmaaDoorBase
namespace Go.Proofs.YtadoplgmeoghmaaDoor
open Go.RowKit
set_option linter.unusedVariables false
set_option linter.unusedSimpArgs false
attribute [local go_sem] ba_get ba_cut ba_add
def signsV : Value := .string ⟨#[48, 49, 50, 51, 52, 53, 54, 55, 56, 57, 97, 98, 99, 100, 101, 102]⟩
theorem info_u8 : (Tryd.prog.info? 5).map (fun i => (i.zero, i.size, i.bytes)) = some (some (.int .u8 0), 1, 1) := by kernel_rfl
theorem sign_at {x : Nat} (h : x < 16) (W : World) : (Instr.index 9 signsV (.int .u8 (x : Int))).run Tryd.prog W = .ok (.int .u8 ((Pl.sgn x).toNat : Int)) W := by
  obtain rfl | rfl | rfl | rfl | rfl | rfl | rfl | rfl | rfl | rfl | rfl | rfl | rfl | rfl | rfl | rfl : x = 0 ∨ x = 1 ∨ x = 2 ∨ x = 3 ∨ x = 4 ∨ x = 5 ∨ x = 6 ∨ x = 7 ∨ x = 8 ∨ x = 9 ∨ x = 10 ∨ x = 11 ∨ x = 12 ∨ x = 13 ∨ x = 14 ∨ x = 15 := by omega
  all_goals kernel_rfl
theorem dig_at {D : List Value} {k : Nat} {v : Value} (hk : k < 32) (h : D[k]? = some v) (W : World) : (Instr.index 29 (.agg D.toArray) (.int .i64 (k : Int))).run Tryd.prog W = .ok v W := by
  obtain ⟨i0, hi0, hz0, hz1, hz2⟩ := info_parts info_u8
  have h0 : (0 : Int) ≤ (k : Int) ∧ (k : Int) < ((32 : Nat) : Int) := by omega
  simp [Instr.index, asIntOf, run_underlying Tryd.underlying29, run_underlying Tryd.underlying5, h0, hk, h, part, sizeOf, typeInfo, hi0, hz1, isAgg, Sem.run_bind]
theorem and15_fin : ∀ x : Fin 256, bits BinOp.and .u8 (x.val : Int) 15 = (x.val : Int) % 16 := by decide +kernel
theorem and15 {x : Nat} (h : x < 256) : bits BinOp.and .u8 (x : Int) 15 = (x : Int) % 16 := and15_fin ⟨x, h⟩
def signsL : List UInt8 := [48, 49, 50, 51, 52, 53, 54, 55, 56, 57, 97, 98, 99, 100, 101, 102]
theorem sign_cut_fin : ∀ x : Fin 16, List.take 1 (List.drop x.val [48, 49, 50, 51, 52, 53, 54, 55, 56, 57, 97, 98, 99, 100, 101, 102]) = [Pl.sgn x.val] := by decide +kernel
theorem sign_cut {x : Nat} (h : x < 16) : List.take 1 (List.drop x [48, 49, 50, 51, 52, 53, 54, 55, 56, 57, 97, 98, 99, 100, 101, 102]) = [Pl.sgn x] := sign_cut_fin ⟨x, h⟩
theorem byC_get {d : List UInt8} {k : Nat} (h : k < d.length) : (byC d)[k]? = some (.int .u8 (d[k].toNat : Int)) := by simp [byC, h]
theorem hexB_take (d : List UInt8) (k : Nat) (h : k < d.length) : Pl.hexB (d.take (k + 1)) = Pl.hexB (d.take k) ++ [Pl.sgn (d[k].toNat / 16), Pl.sgn (d[k].toNat % 16)] := by
  rw [List.take_succ_eq_append_getElem h, Pl.hexB_append]; rfl
theorem byC_append (l k : List UInt8) : byC (l ++ k) = byC l ++ byC k := by simp [byC]
theorem two_cells (w : World) (x y : Int) (j : Nat) (u : Value) {l : List Value} (hu : l[j]? = some u) (hl : l = [.int .u8 x, .int .u8 y] := by rfl) : (w.alloc (.cells #[.int .u8 x, .int .u8 y] 5)).drew.cell? ⟨w.heap.size, 0 + j, none⟩ = some u := by
  subst hl
  match j with
  | 0 => simpa [go_sem] using hu
  | 1 => simpa [go_sem] using hu
  | j + 2 => simp at hu
set_option maxRecDepth 100000 in
set_option maxHeartbeats 2000000 in
theorem hex_any (d : List UInt8) (w : World) (hd : d.length = 32) : Calls Tryd.prog 82 #[.agg (byC d).toArray] w (RetB (fun v _ => v = .string ⟨(Pl.hexB d).toArray⟩) w) := by
  obtain ⟨D, hD⟩ : ∃ D, byC d = D := ⟨_, rfl⟩
  have hDl : D.length = 32 := by rw [← hD, byC_len, hd]
  rw [hD]
  have HD := Lib.hid (And.intro hD (And.intro hDl hd)); clear hD hDl hd
  obtain ⟨cur, hcur, hmk⟩ := make_empty (P := Tryd.prog) 71 5 _ 1 1 Tryd.underlying71 info_u8 64 (by omega) (by omega)
  rw [show ((64 : Nat) : Int) = 64 from rfl] at hmk
  go_enter Tryd.func82, Tryd.ntmps82
  go_upto_region 2 with (fail)
  generalize hV : (w.alloc _).alloc _ = V
  have hR : V.heap[w.heap.size]? = some (.cells D.toArray 29 (0, 0)) := by rw [← hV]; exact (Below.heap_alloc _ _ _ (by simp)).trans (heap_alloc_new w _)
  have hown : V.ownsRow w.heap.size 5 1 (.slice (some ⟨w.heap.size + 1, 0, none⟩) 0 64) 0 [] := by
    rw [← hV]
    have := World.ownsRow_made (base := w.heap.size) (e := 5) (size := 1) (w.alloc (.cells D.toArray 29)) cur 64 (by simp) (by decide) (by omega)
    simpa using this
  have hbV : Below w.heap.size w V := by rw [← hV]; exact ((Below.refl _ _).alloc (Nat.le_refl _) _).alloc (by simp) _
  clear hV hmk hcur
  go_wp2_with (with_reducible refine wpList_load_mid rfl 29 _ rfl w.heap.size 0 rfl D _ (range_row hR) Tryd.underlying29 rfl (by rw [HD.out.2.1]; exact info_dig) ?_)
  clear hR
  go_loopw [3, 8] (fun v i wr => ∃ (k : Nat) (A : Option Addr) (n c : Nat) (xs : List UInt8), k ≤ 32 ∧ i = .int .i64 (k : Nat) ∧ v = .slice A n c ∧ n = 2 * k ∧ wr.ownsRow w.heap.size 5 1 (.slice A n c) n (byC xs) ∧ Below w.heap.size w wr ∧ Hid (Pl.hexB (d.take k) = xs)) (fun _ i _ => 32 - (intOf i).toNat)
  case atStart => exact ⟨0, _, _, _, [], by omega, rfl, rfl, rfl, hown, hbV, rfl⟩
  case round =>
    clear hown hbV
    obtain ⟨k, A, n, c, xs, hk, rfl, rfl, hn, hown, hbV, HX⟩ := hrel
    by_cases hkl : k < 32
    · have hkd : k < d.length := by rw [HD.out.2.2]; exact hkl
      obtain ⟨x, hx⟩ : ∃ x, d[k].toNat = x := ⟨_, rfl⟩
      have hxb : x < 256 := by rw [← hx]; exact d[k].toNat_lt
      have hg : D[k]? = some (.int .u8 (x : Int)) := by rw [← HD.out.1, byC_get hkd, hx]
      have hst := hexB_take d k hkd
      rw [HX.out, hx] at hst
      have HS := Lib.hid (And.intro hst hx); clear hst hx
      have hix : ∀ W, (Instr.index 29 (.agg D.toArray) (.int .i64 (k : Int))).run Tryd.prog W = .ok (.int .u8 (x : Int)) W := by
        exact dig_at hkl hg
      have s1 := sign_at (x := x / 16) (by omega)
      have s2 := sign_at (x := x % 16) (by omega)
      unfold signsV at s1 s2
      rw [show ((x / 16 : Nat) : Int) = (x : Int) / 16 by omega] at s1
      rw [show ((x % 16 : Nat) : Int) = (x : Int) % 16 by omega] at s2
      obtain ⟨y1, hy1⟩ : ∃ y, Pl.sgn (x / 16) = y := ⟨_, rfl⟩
      obtain ⟨y2, hy2⟩ : ∃ y, Pl.sgn (x % 16) = y := ⟨_, rfl⟩
      rw [hy1] at s1
      rw [hy2] at s2
      have HY := Lib.hid (And.intro hy1 hy2); clear hy1 hy2
      clear hg
      have ha := and15 hxb
      go_wp2_with fail
      refine wp_region_held_drew (S := (fun w' => True)) (by kernel_rfl) trivial (fun hHeld => ?_)
      refine wpAnyH_take (i := 0) (v := ?_) rfl (by kernel_rfl) (by kernel_rfl) (by kernel_rfl) (fun _ _ _ h => h) (Or.inl ⟨by kernel_rfl, ?_⟩) hHeld ?_
      rotate_left
      · (intro w' hSw; (try dsimp only at hSw); go_simp; try with_reducible rfl)
      simp only [Act.put, List.setIfInBounds_toArray, List.set_cons_zero, List.set_cons_succ, List.getElem_toArray, List.getElem_cons_succ, List.getElem_cons_zero]
      refine wpAnyH_take (i := 1) (v := ?_) rfl (by kernel_rfl) (by kernel_rfl) (by kernel_rfl) (fun _ _ _ h => h) (Or.inl ⟨by kernel_rfl, ?_⟩) hHeld ?_
      rotate_left
      · (intro w' hSw; (try dsimp only at hSw); go_simp; try with_reducible rfl)
      simp only [Act.put, List.setIfInBounds_toArray, List.set_cons_zero, List.set_cons_succ, List.getElem_toArray, List.getElem_cons_succ, List.getElem_cons_zero]
      refine wpAnyH_take (i := 2) (v := ?_) rfl (by kernel_rfl) (by kernel_rfl) (by kernel_rfl) (fun _ _ _ h => h) (Or.inl ⟨by kernel_rfl, ?_⟩) hHeld ?_
      rotate_left
      · (intro w' hSw; (try dsimp only at hSw); go_simp; try with_reducible rfl)
      simp only [Act.put, List.setIfInBounds_toArray, List.set_cons_zero, List.set_cons_succ, List.getElem_toArray, List.getElem_cons_succ, List.getElem_cons_zero]
      refine wpAnyH_take (i := 3) (v := ?_) rfl (by kernel_rfl) (by kernel_rfl) (by kernel_rfl) (fun _ _ _ h => h) (Or.inl ⟨by kernel_rfl, ?_⟩) hHeld ?_
      rotate_left
      · (intro w' hSw; (try dsimp only at hSw); go_simp; try with_reducible rfl)
      simp only [Act.put, List.setIfInBounds_toArray, List.set_cons_zero, List.set_cons_succ, List.getElem_toArray, List.getElem_cons_succ, List.getElem_cons_zero]
      refine wpAnyH_take (i := 4) (v := ?_) rfl (by kernel_rfl) (by kernel_rfl) (by kernel_rfl) (fun _ _ _ h => h) (Or.inl ⟨by kernel_rfl, ?_⟩) hHeld ?_
      rotate_left
      · (intro w' hSw; (try dsimp only at hSw); go_simp; try with_reducible rfl)
      simp only [Act.put, List.setIfInBounds_toArray, List.set_cons_zero, List.set_cons_succ, List.getElem_toArray, List.getElem_cons_succ, List.getElem_cons_zero]
      refine wpAnyH_take (i := 5) (v := ?_) rfl (by kernel_rfl) (by kernel_rfl) (by kernel_rfl) (fun _ _ _ h => h) (Or.inl ⟨by kernel_rfl, ?_⟩) hHeld ?_
      rotate_left
      · (intro w' hSw; (try dsimp only at hSw); go_simp; try with_reducible rfl)
      simp only [Act.put, List.setIfInBounds_toArray, List.set_cons_zero, List.set_cons_succ, List.getElem_toArray, List.getElem_cons_succ, List.getElem_cons_zero]
      refine wpAnyH_take (i := 6) (v := ?_) rfl (by kernel_rfl) (by kernel_rfl) (by kernel_rfl) (fun _ _ _ h => h) (Or.inl ⟨by kernel_rfl, ?_⟩) hHeld ?_
      rotate_left
      · (intro w' hSw; (try dsimp only at hSw); go_simp; try with_reducible rfl)
      simp only [Act.put, List.setIfInBounds_toArray, List.set_cons_zero, List.set_cons_succ, List.getElem_toArray, List.getElem_cons_succ, List.getElem_cons_zero]
      refine wpAnyH_ready (rs := [7]) (by kernel_rfl) (by simp) (AllReadyH.cons rfl (fun K hK => ?_) AllReadyH.nil)
      go_simp
      refine hK.out _ _ trivial (fun hHeld => ?_)
      clear hK K
      (try simp only [Act.put, List.setIfInBounds_toArray, List.set_cons_zero, List.set_cons_succ, List.getElem_toArray, List.getElem_cons_succ, List.getElem_cons_zero])
      refine wpAnyH_ready (rs := [8]) (by kernel_rfl) (by simp) (AllReadyH.cons rfl (fun K hK => ?_) AllReadyH.nil)
      refine step_pushes rfl (.tmp 11) (.tmp 18) 71 rfl w.heap.size 5 _ 1 Tryd.underlying71 info_u8 rfl _ _ _ _ (byC [y1, y2]) wr.heap.size 0 2 2 (by rfl) (hn ▸ hown.alloc _) (by rfl) rfl (by omega) ?_ (byC_one _) (by omega) (by omega) (by have := hbV.size; simp; omega) ?_
      · intro j u hu
        exact two_cells _ _ _ _ _ hu
      intro A' c' w' hown' hb'
      refine hK.out _ _ trivial (fun hHeld => ?_)
      clear hK K
      (try simp only [Act.put, List.setIfInBounds_toArray, List.set_cons_zero, List.set_cons_succ, List.getElem_toArray, List.getElem_cons_succ, List.getElem_cons_zero])
      refine wpAnyH_take (i := 9) (v := ?_) rfl (by kernel_rfl) (by kernel_rfl) (by kernel_rfl) (fun _ _ _ h => h) (Or.inl ⟨by kernel_rfl, ?_⟩) hHeld ?_
      rotate_left
      · (intro w' hSw; (try dsimp only at hSw); go_simp; try with_reducible rfl)
      simp only [Act.put, List.setIfInBounds_toArray, List.set_cons_zero, List.set_cons_succ, List.getElem_toArray, List.getElem_cons_succ, List.getElem_cons_zero]
      refine wpAnyH_done (by kernel_rfl) ?_ _
      go_wp2_with fail
      go_roundw
      case rel => exact ⟨k + 1, A', 2 * (k + 1), c', xs ++ [y1, y2], by omega, by go_num, rfl, rfl, (by rw [byC_append]; exact hown'), ((hbV.alloc hbV.size _).drew).trans hb', by rw [HS.out.1, HY.out.1, HY.out.2]; rfl⟩
      case measure => simp [intOf]; omega
    · obtain rfl : k = 32 := by omega
      subst hn
      have hr := Rd.own hown
      have hxl : xs.length = 64 := by have := hr.len1; rwa [byC_len] at this
      obtain ⟨b, off, rfl, -, hc⟩ := hr.all (by omega)
      have hcv := bytes_conv wr b off 64 c xs hxl (fun j hj => by rw [hc j (by rw [byC_len]; exact hj), byC_get hj])
      go_wp2_with fail
      go_ret
      refine ⟨_, rfl, ?_, hbV⟩
      rw [← HX.out, List.take_of_length_le (by rw [HD.out.2.2]; omega)]; rfl
end Go.Proofs.YtadoplgmeoghmaaDoor
