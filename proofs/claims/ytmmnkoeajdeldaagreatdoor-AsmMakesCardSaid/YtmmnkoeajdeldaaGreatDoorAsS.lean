/- The document's Same, of programs; the law's three examples. The law's three examples. The document's Lines. -/
import Derived.Test.YtmmnkoeajdeldaaGreatDoorAsXe
import Derived.Test.YtmmnkoeajdeldaaGreatDoorAsGp
namespace Go.Proofs.YtmmnkoeajdeldaaGreatDoor
open Go.RowKit Go.Maps Go.WideMaps
set_option linter.unusedVariables false
set_option linter.unusedSimpArgs false
attribute [local go_sem] ba_get ba_cut ba_add fld_k fld_s fld_n
def sameE (X Y : Pl.Exe) : Bool := decide (X.text = Y.text ∧ X.data = Y.data ∧ X.room = Y.room ∧ X.entry = Y.entry)
theorem sameE_no {X Y : Pl.Exe} {R : Bool} (hR : sameE X Y = R) (h : X.text.length ≠ Y.text.length ∨ X.data ≠ Y.data ∨ X.room ≠ Y.room ∨ X.entry ≠ Y.entry) : R = false := by
  rw [← hR]
  refine decide_eq_false fun ⟨a, b, c, d⟩ => ?_
  rcases h with h | h | h | h
  · exact h (by rw [a])
  · exact h b
  · exact h c
  · exact h d
theorem xeA_cells {W : World} {B : Nat} {v0 v1 v2 v3 : Value} (h : W.heap[B]? = some (.cells #[v0, v1, v2, v3] 26 (0, 0))) : W.cell? ⟨B, 0, none⟩ = some v0 ∧ W.cell? ⟨B, 1, none⟩ = some v1 ∧ W.cell? ⟨B, 2, none⟩ = some v2 ∧ W.cell? ⟨B, 3, none⟩ = some v3 :=
  ⟨by rw [cell_row W B 0 _ _ h]; rfl, by rw [cell_row W B 1 _ _ h]; rfl, by rw [cell_row W B 2 _ _ h]; rfl, by rw [cell_row W B 3 _ _ h]; rfl⟩
theorem w32_at (l : List Nat) (k : Nat) (h : k < l.length) : (w32s l)[k]? = some (.int .u32 (l[k] : Int)) := by simp [w32s, h]
theorem take_step {l m : List Nat} {k : Nat} (hl : k < l.length) (hm : k < m.length) (h : l.take k = m.take k) (e : l[k] = m[k]) : l.take (k + 1) = m.take (k + 1) := by
  rw [List.take_succ_eq_append_getElem hl, List.take_succ_eq_append_getElem hm, h, e]
set_option maxRecDepth 100000 in
set_option maxHeartbeats 2000000 in
theorem same11_any (X Y : Pl.Exe) (A A' : Option Addr) (c c' : Nat) (w : World) (ha : Rd w 1 A X.text.length (w32s X.text)) (hb : Rd w 1 A' Y.text.length (w32s Y.text)) (fa : X.text.length ≤ 9223372036854775807) (fb : Y.text.length ≤ 9223372036854775807) :
    Calls Tryz.prog 11 #[xeV A c X, xeV A' c' Y] w (RetB (fun v _ => v = .bool (sameE X Y)) w) := by
  obtain ⟨R, hR⟩ : ∃ R, sameE X Y = R := ⟨_, rfl⟩
  rw [hR]
  have HR := Lib.hid hR; clear hR
  obtain ⟨xt, xd, xr, xe⟩ := X
  obtain ⟨yt, yd, yr, ye⟩ := Y
  simp only at ha hb fa fb HR
  unfold xeV
  go_enter Tryz.func11, Tryz.ntmps11
  go_upto_region 1 with (fail)
  generalize hV : (w.alloc _).alloc _ = V
  obtain ⟨B, hB⟩ : ∃ B, w.heap.size = B := ⟨_, rfl⟩
  have hx : V.heap[B]? = some (.cells #[.slice A xt.length c, .string ⟨xd.toArray⟩, .int .i64 xr, .int .u32 (xe : Int)] 26 (0, 0)) := by
    rw [← hV, Below.heap_alloc _ _ _ (by simp; omega), ← hB]
    exact heap_alloc_new _ _
  have hy : V.heap[B + 1]? = some (.cells #[.slice A' yt.length c', .string ⟨yd.toArray⟩, .int .i64 yr, .int .u32 (ye : Int)] 26 (0, 0)) := by
    rw [← hV]
    have h := heap_alloc_new (w.alloc (.cells #[.slice A xt.length c, .string ⟨xd.toArray⟩, .int .i64 xr, .int .u32 (xe : Int)] 26)) (.cells #[.slice A' yt.length c', .string ⟨yd.toArray⟩, .int .i64 yr, .int .u32 (ye : Int)] 26)
    rw [show (w.alloc (.cells #[.slice A xt.length c, .string ⟨xd.toArray⟩, .int .i64 xr, .int .u32 (xe : Int)] 26)).heap.size = B + 1 by simp [hB]] at h
    exact h
  have hbV : Below w.heap.size w V := by rw [← hV]; exact ((Below.refl _ _).alloc (Nat.le_refl _) _).alloc (by simp) _
  rw [hB]
  clear hV
  have ha1 := ha.below hbV
  have hb1 := hb.below hbV
  obtain ⟨x0, x1, x2, x3⟩ := xeA_cells hx
  obtain ⟨y0, y1, y2, y3⟩ := xeA_cells hy
  have HX := Lib.hid (And.intro hx (And.intro hy hbV))
  clear hx hy hbV ha hb
  obtain ⟨n, hn⟩ : ∃ n, xt.length = n := ⟨_, rfl⟩
  obtain ⟨n', hn'⟩ : ∃ n', yt.length = n' := ⟨_, rfl⟩
  rw [hn] at x0 ha1 fa HX
  rw [hn'] at y0 hb1 fb HX
  have HN := Lib.hid (And.intro hn hn')
  by_cases hnn : n = n'
  rotate_left
  · have hf := sameE_no HR.out (.inl (by simp only [hn, hn']; exact hnn))
    subst hf
    clear hn hn'
    go_wp2_with fail
    go_ret
    exact ⟨_, rfl, rfl, HX.out.2.2⟩
  subst hnn
  by_cases hd : xd = yd
  rotate_left
  · have hf := sameE_no HR.out (.inr (.inl hd))
    subst hf
    have hd2 : (xd == yd) = false := by simpa using hd
    clear hn hn'
    go_wp2_with fail
    go_ret
    exact ⟨_, rfl, rfl, HX.out.2.2⟩
  subst hd
  by_cases hr : xr = yr
  rotate_left
  · have hf := sameE_no HR.out (.inr (.inr (.inl hr)))
    subst hf
    clear hn hn'
    go_wp2_with fail
    go_ret
    exact ⟨_, rfl, rfl, HX.out.2.2⟩
  subst hr
  by_cases he : xe = ye
  rotate_left
  · have hf := sameE_no HR.out (.inr (.inr (.inr he)))
    subst hf
    have he2 : ¬ ((xe : Int) = (ye : Int)) := by omega
    clear hn hn'
    go_wp2_with fail
    go_ret
    exact ⟨_, rfl, rfl, HX.out.2.2⟩
  subst he
  clear hn hn'
  go_wp2_with fail
  clear x0 x1 x2 x3 y0 y1 y2 y3
  go_loopw [5] (fun i wr => ∃ (k : Nat), k ≤ n ∧ i = .int .i64 (k : Nat) ∧ Hid (wr.heap[B]? = some (.cells #[.slice A n c, .string ⟨xd.toArray⟩, .int .i64 xr, .int .u32 (xe : Int)] 26 (0, 0)) ∧ wr.heap[B + 1]? = some (.cells #[.slice A' n c', .string ⟨xd.toArray⟩, .int .i64 xr, .int .u32 (xe : Int)] 26 (0, 0))) ∧ Rd wr 1 A n (w32s xt) ∧ Rd wr 1 A' n (w32s yt) ∧ Below w.heap.size w wr ∧ Hid (xt.take k = yt.take k)) (fun i _ => n - (intOf i).toNat)
  case atStart => exact ⟨0, by omega, rfl, Lib.hid ⟨HX.out.1, HX.out.2.1⟩, ha1, hb1, HX.out.2.2, Lib.hid rfl⟩
  case round =>
    clear HX ha1 hb1
    obtain ⟨k, hk, rfl, HX, ha, hb, hbV, HS⟩ := hrel
    have x0 := (xeA_cells HX.out.1).1
    have y0 := (xeA_cells HX.out.2).1
    by_cases hkn : k < n
    · have hk1 : k < xt.length := by rw [HN.out.1]; exact hkn
      have hk2 : k < yt.length := by rw [HN.out.2]; exact hkn
      obtain ⟨b, off, rfl, hbl, hc⟩ := ha.at1 hkn
      obtain ⟨b', off', rfl, hbl', hc'⟩ := hb.at1 hkn
      rw [w32_at xt k hk1] at hc
      rw [w32_at yt k hk2] at hc'
      obtain ⟨u, hu⟩ : ∃ u, xt[k] = u := ⟨_, rfl⟩
      obtain ⟨v, hv⟩ : ∃ v, yt[k] = v := ⟨_, rfl⟩
      rw [hu] at hc
      rw [hv] at hc'
      by_cases huv : u = v
      · subst huv
        have HT := Lib.hid (take_step hk1 hk2 HS.out (hu.trans hv.symm))
        have HA := Lib.hid (And.intro ha (And.intro hb hbV))
        clear ha hb hbV hu hv hk1 hk2
        go_wp2_with fail
        go_quiet ((fail))
        go_wp2_with fail
        go_roundw
        case rel => exact ⟨k + 1, by omega, by go_num, ⟨HX.out.1, HX.out.2⟩, HA.out.1.drewN _, HA.out.2.1.drewN _, below_drewN HA.out.2.2 _, HT⟩
        case measure => simp [intOf]; omega
      · have hne : ¬ ((u : Int) = (v : Int)) := by omega
        have hf : R = false := by
          rw [← HR.out]
          refine decide_eq_false fun ⟨a, _⟩ => huv ?_
          simp only at a
          rw [← hu, ← hv]
          simp only [a]
        subst hf
        have HA := Lib.hid (And.intro ha (And.intro hb hbV))
        clear ha hb hbV hu hv hk1 hk2
        go_wp2_with fail
        go_quiet ((fail))
        go_wp2_with fail
        go_ret
        exact ⟨_, rfl, rfl, below_drewN HA.out.2.2 _⟩
    · have ht : R = true := by
        rw [← HR.out]
        refine decide_eq_true ⟨?_, rfl, rfl, rfl⟩
        have h := HS.out
        rw [List.take_of_length_le (by rw [HN.out.1]; omega), List.take_of_length_le (by rw [HN.out.2]; omega)] at h
        exact h
      subst ht
      have HA := Lib.hid (And.intro ha (And.intro hb hbV))
      clear ha hb hbV
      go_wp2_with fail
      go_ret
      exact ⟨_, rfl, rfl, HA.out.2.2⟩
end Go.Proofs.YtmmnkoeajdeldaaGreatDoor
namespace Go.Proofs.YtmmnkoeajdeldaaGreatDoor
open Go.RowKit Go.Maps Go.WideMaps
set_option linter.unusedVariables false
set_option linter.unusedSimpArgs false
attribute [local go_sem] ba_get ba_cut ba_add fld_k fld_s fld_n
def fx1 : List UInt8 := [115, 116, 97, 114, 116, 58, 32, 106, 97, 108, 32, 114, 48, 44, 32, 115, 116, 97, 114, 116]
def fx2 : List UInt8 := [115, 116, 97, 114, 116, 58, 10, 106, 97, 108, 32, 114, 48, 44, 32, 115, 116, 97, 114, 116, 10, 108, 105, 32, 114, 49, 44, 32, 54, 53, 53, 51, 55, 10]
def fx3 : List UInt8 := [106, 97, 108, 32, 114, 48, 44, 32, 45, 49, 10, 108, 117, 105, 32, 114, 49, 44, 32, 49, 10, 111, 114, 105, 32, 114, 49, 44, 32, 114, 49, 44, 32, 49, 10]
theorem fx1_mk : Pl.mkP fx1 = .error (3, 1) := by kernel_rfl
theorem fx2_mk : Pl.mkP fx2 = .ok ⟨[1946222591, 1279262721, 1078198273], [], 0, 0⟩ := by kernel_rfl
theorem fx3_mk : Pl.mkP fx3 = .ok ⟨[1946222591, 1279262721, 1078198273], [], 0, 0⟩ := by kernel_rfl
def fxE : Pl.Exe := ⟨[1946222591, 1279262721, 1078198273], [], 0, 0⟩
set_option maxRecDepth 100000 in
set_option maxHeartbeats 2000000 in
theorem fixed_any (w : World) (hv : VAsm w) : Calls Tryz.prog 8 #[] w (RetB (fun v _ => v = .bool true) w) := by
  have HV := Lib.hid hv
  clear hv
  go_enter Tryz.func8, Tryz.ntmps8
  go_wp2_with fail
  refine (make_any fx1 w (by decide) HV.out).mono ?_
  rintro x w1 ⟨hb1, h⟩
  rw [fx1_mk] at h
  obtain rfl := h
  have e1 : xeV none 0 ⟨[], [], 0, 0⟩ = .agg #[.slice none 0 0, .string ⟨#[]⟩, .int .i64 0, .int .u32 0] := rfl
  rw [e1]
  clear e1
  go_upto_region 2 with (fail)
  obtain ⟨w2, hw2⟩ : ∃ V, w1.alloc (.cells #[.slice none 0 0, .string ⟨#[]⟩, .int .i64 0, .int .u32 0] 26) = V := ⟨_, rfl⟩
  obtain ⟨B1, hB1⟩ : ∃ B, w1.heap.size = B := ⟨_, rfl⟩
  have hz1 : w2.heap[B1]? = some (.cells #[.slice none 0 0, .string ⟨#[]⟩, .int .i64 0, .int .u32 0] 26 (0, 0)) := by rw [← hw2, ← hB1]; exact heap_alloc_new _ _
  have hb2 : Below w1.heap.size w1 w2 := by rw [← hw2]; exact (Below.refl _ _).alloc (Nat.le_refl _) _
  rw [hw2, hB1]
  clear hw2
  have hv2 := (HV.out.below hb1).below hb2
  have hbb2 := hb1.trans (hb2.mono hb1.size)
  clear hb1 hb2
  go_wp2_with fail
  refine (make_any fx2 w2 (by decide) hv2).mono ?_
  rintro x w3 ⟨hb3, h⟩
  rw [fx2_mk] at h
  obtain ⟨tA, c, rfl, hown⟩ := h
  change w3.ownsRow w2.heap.size 24 1 (.slice tA 3 c) 3 (w32s fxE.text) at hown
  have e1 : xeV tA c ⟨[1946222591, 1279262721, 1078198273], [], 0, 0⟩ = .agg #[.slice tA 3 c, .string ⟨#[]⟩, .int .i64 0, .int .u32 0] := rfl
  rw [e1]
  clear e1
  go_upto_region 3 with (fail)
  obtain ⟨w4, hw4⟩ : ∃ V, w3.alloc (.cells #[.slice tA 3 c, .string ⟨#[]⟩, .int .i64 0, .int .u32 0] 26) = V := ⟨_, rfl⟩
  obtain ⟨B2, hB2⟩ : ∃ B, w3.heap.size = B := ⟨_, rfl⟩
  have hz2 : w4.heap[B2]? = some (.cells #[.slice tA 3 c, .string ⟨#[]⟩, .int .i64 0, .int .u32 0] 26 (0, 0)) := by rw [← hw4, ← hB2]; exact heap_alloc_new _ _
  have hb4 : Below w3.heap.size w3 w4 := by rw [← hw4]; exact (Below.refl _ _).alloc (Nat.le_refl _) _
  rw [hw4, hB2]
  clear hw4
  have hv4 := (hv2.below hb3).below hb4
  have hbb4 := hbb2.trans ((hb3.trans (hb4.mono hb3.size)).mono hbb2.size)
  have ho4 := own_below hown hb4
  have hz1b := (hb4.block B1 (blk_lt ((hb3.block B1 (blk_lt hz1)).trans hz1))).trans ((hb3.block B1 (blk_lt hz1)).trans hz1)
  clear hb3 hb4 hown hz1 hv2 hbb2
  go_wp2_with fail
  refine (make_any fx3 w4 (by decide) hv4).mono ?_
  rintro x w5 ⟨hb5, h⟩
  rw [fx3_mk] at h
  obtain ⟨tB, d, rfl, hown⟩ := h
  change w5.ownsRow w4.heap.size 24 1 (.slice tB 3 d) 3 (w32s fxE.text) at hown
  have e1 : xeV tB d ⟨[1946222591, 1279262721, 1078198273], [], 0, 0⟩ = .agg #[.slice tB 3 d, .string ⟨#[]⟩, .int .i64 0, .int .u32 0] := rfl
  rw [e1]
  clear e1
  go_upto_region 4 with (fail)
  obtain ⟨w6, hw6⟩ : ∃ V, w5.alloc (.cells #[.slice tB 3 d, .string ⟨#[]⟩, .int .i64 0, .int .u32 0] 26) = V := ⟨_, rfl⟩
  obtain ⟨B3, hB3⟩ : ∃ B, w5.heap.size = B := ⟨_, rfl⟩
  have hz3 : w6.heap[B3]? = some (.cells #[.slice tB 3 d, .string ⟨#[]⟩, .int .i64 0, .int .u32 0] 26 (0, 0)) := by rw [← hw6, ← hB3]; exact heap_alloc_new _ _
  have hb6 : Below w5.heap.size w5 w6 := by rw [← hw6]; exact (Below.refl _ _).alloc (Nat.le_refl _) _
  rw [hw6, hB3]
  clear hw6
  have hbb6 := hbb4.trans ((hb5.trans (hb6.mono hb5.size)).mono hbb4.size)
  have hb46 : Below w4.heap.size w4 w6 := hb5.trans (hb6.mono hb5.size)
  have ho6 := own_below hown hb6
  have ho5 := own_below ho4 hb46
  have z1 := (hb46.block B1 (blk_lt hz1b)).trans hz1b
  have z2 := (hb46.block B2 (blk_lt hz2)).trans hz2
  clear hb5 hb6 hown hz1b hz2 hv4 hbb4 hb46 ho4
  obtain ⟨x0, x1, x2, x3⟩ := xeA_cells z1
  obtain ⟨y0, y1, y2, y3⟩ := xeA_cells z2
  obtain ⟨u0, u1, u2, u3⟩ := xeA_cells hz3
  have hs := same11_any fxE fxE tA tB c d w6 (Rd.own ho5) (Rd.own ho6) (by decide) (by decide)
  have e1 : xeV tA c fxE = .agg #[.slice tA 3 c, .string ⟨#[]⟩, .int .i64 0, .int .u32 0] := rfl
  have e2 : xeV tB d fxE = .agg #[.slice tB 3 d, .string ⟨#[]⟩, .int .i64 0, .int .u32 0] := rfl
  have e3 : sameE fxE fxE = true := rfl
  rw [e1, e2, e3] at hs
  have HS := Lib.hid (And.intro hs hbb6)
  clear e1 e2 e3 hs hbb6 ho5 ho6 z1 z2 hz3
  go_wp2_with fail
  (with_reducible refine HS.out.1.mono ?_)
  rintro x w7 ⟨v, rfl, rfl, hb7⟩
  have y0' := (hb7.cell (p := ⟨B2, 0, none⟩) (World.block_lt_of_cell? _ _ y0)).trans y0
  have HB7 := Lib.hid hb7
  clear x0 x1 x2 x3 y0 y1 y2 y3 u0 u1 u2 u3 hb7
  go_wp2_with fail
  go_ret
  exact ⟨_, rfl, rfl, HS.out.2.trans (HB7.out.mono HS.out.2.size)⟩
end Go.Proofs.YtmmnkoeajdeldaaGreatDoor
namespace Go.Proofs.YtmmnkoeajdeldaaGreatDoor
open Go.RowKit Go.Maps Go.WideMaps
set_option linter.unusedVariables false
set_option linter.unusedSimpArgs false
attribute [local go_sem] ba_get ba_cut ba_add fld_k fld_s fld_n
/-- What a text's making gives, and how it lies. -/
theorem MakeQ.val {w w' : World} {E : Except (Nat × Nat) Pl.Exe} {x : Ending} (h : MakeQ w E x w') : ∃ tA c, x = .returned (.tuple #[xeV tA c (Pl.resE E).1, .int .i64 ((Pl.resE E).2.1 : Int), .int .i64 ((Pl.resE E).2.2 : Int)]) ∧ Rd w' 1 tA (Pl.resE E).1.text.length (w32s (Pl.resE E).1.text) ∧ (Pl.resE E).1.text.length ≤ 9223372036854775807 ∧ Below w.heap.size w w' := by
  obtain ⟨hb, h⟩ := h
  cases E with
  | error e => exact ⟨none, 0, h, Rd.nil, of_decide_eq_true rfl, hb⟩
  | ok X =>
    obtain ⟨tA, c, rfl, hown⟩ := h
    refine ⟨tA, c, rfl, Rd.own hown, ?_, hb⟩
    show X.text.length ≤ _
    rcases hown.2 with ⟨_, h0⟩ | ⟨g, cap, cur, _, _, _, h1, h2, _⟩
    · omega
    · exact Nat.le_trans h1 h2
def LinesQ (w : World) (l : List (List UInt8)) (x : Ending) (w' : World) : Prop := ∃ A c, x = .returned (.slice A l.length c) ∧ w'.ownsRow w.heap.size 9 1 (.slice A l.length c) l.length (strs l) ∧ Below w.heap.size w w'
set_option maxRecDepth 100000 in
set_option maxHeartbeats 2000000 in
theorem lines_any (t : List UInt8) (w : World) (ht : t.length ≤ 1000000) : Calls Tryz.prog 30 #[.string ⟨t.toArray⟩] w (LinesQ w (Pl.linesD t)) := by
  obtain ⟨R, hR⟩ : ∃ R, Pl.linesD t = R := ⟨_, rfl⟩
  rw [hR]
  have HR := Lib.hid hR
  obtain ⟨B, hB⟩ : ∃ B, w.heap.size = B := ⟨_, rfl⟩
  clear hR
  go_enter Tryz.func30, Tryz.ntmps30
  go_wp2_with fail
  obtain ⟨W, hW⟩ : ∃ W, w.alloc (.cells #[] 9) = W := ⟨_, rfl⟩
  have h0 : W.ownsRow B 9 1 (.slice (some ⟨B, 0, none⟩) 0 0) 0 [] := by
    rw [← hW, ← hB]
    exact ⟨rfl, .inr ⟨_, 0, #[], rfl, Nat.le_refl _, heap_alloc_new _ _, Nat.le_refl _, Nat.zero_le _, rfl, rfl⟩⟩
  have hb0 : Below B w W := by rw [← hW, ← hB]; exact (Below.refl _ _).alloc (Nat.le_refl _) _
  rw [hW]
  have HW := Lib.hid (And.intro h0 hb0)
  clear hW h0 hb0
  go_loopw [3, 4, 5] (fun v f i wr => ∃ (k g : Nat) (ls : List (List UInt8)), k ≤ t.length ∧ g ≤ k ∧ ls.length ≤ k ∧ i = .int .i64 (k : Int) ∧ f = .int .i64 (g : Int) ∧ wr.ownsRow B 9 1 v ls.length (strs ls) ∧ Below B w wr ∧ Hid (ls ++ Pl.linesDF ((t.drop g).take (k - g)) (t.drop k) = R)) (fun _ _ i _ => t.length - (intOf i).toNat)
  case atStart => exact ⟨0, 0, [], by omega, by omega, by simp, rfl, rfl, HW.out.1, HW.out.2, Lib.hid (by simpa [Pl.linesD] using HR.out)⟩
  case round =>
    obtain ⟨k, g, ls, hk, hg, hls, rfl, rfl, hown, hb, HK⟩ := hrel
    obtain ⟨vA, vc, rfl⟩ := own_form' hown
    by_cases hkl : k < t.length
    · have hst := HK.out
      rw [List.drop_eq_getElem_cons hkl, Pl.linesDF] at hst
      have htk : (t.drop g).take (k - g) ++ [t[k]] = (t.drop g).take (k + 1 - g) := by
        rw [show k + 1 - g = (k - g) + 1 by omega, List.take_succ_eq_append_getElem (by simp; omega)]
        simp [show g + (k - g) = k by omega]
      rw [htk] at hst
      obtain ⟨c, hc⟩ : ∃ c, t[k] = c := ⟨_, rfl⟩
      rw [hc] at hst
      have hix : ∀ W', (Instr.index 9 (.string ⟨t.toArray⟩) (.int .i64 (k : Int))).run Tryz.prog W' = .ok (.int .u8 (c.toNat : Int)) W' := by
        intro W'
        rw [← hc]
        simp [go_sem, hkl]
      obtain ⟨x, hx⟩ : ∃ x, c.toNat = x := ⟨_, rfl⟩
      rw [hx] at hix hst
      clear htk hc HK hx
      have HN := Lib.hid (And.intro hown hb)
      have HBw : B ≤ wr.heap.size := by rw [← hB]; exact Nat.le_trans (by rw [hB]; exact Nat.le_refl _) hb.size
      clear hown hb
      by_cases h1 : x = 10
      · rw [if_pos h1] at hst
        subst h1
        have HS := Lib.hid hst
        clear hst
        obtain ⟨y, hy⟩ : ∃ y, (t.drop g).take (k - g) = y := ⟨_, rfl⟩
        rw [hy] at HS
        have hsl : ∀ W', (Instr.slice 9 (.string ⟨t.toArray⟩) (some (.int .i64 (g : Int))) (some (.int .i64 (k : Int))) none).run Tryz.prog W' = .ok (.string ⟨y.toArray⟩) W' := by
          intro W'
          rw [← hy]
          simp [go_sem, hg, hk]
        go_wp2_with (at_builtin; refine push_k rfl (.tmp 17) (.tmp 22) 55 rfl B 9 (.string ⟨#[]⟩) 1 16 Tryz.underlying55 info_str rfl (by decide) wr _ _ _ [.string ⟨y.toArray⟩] rfl rfl HN.out.1 rfl (by intro u hu; simp at hu; subst hu; rfl) (by omega) (by decide) HBw ?_; intro A1 cc w3 hown3 hb3; have HQ := Lib.hid (And.intro hown3 hb3); clear hown3 hb3)
        refine ⟨⟨k + 1, k + 1, ls ++ [y], by omega, by omega, by simp; omega, ret_i (by omega), ret_i (by omega), ?_, HN.out.2.trans HQ.out.2, Lib.hid ?_⟩, by simp only [intOf]; omega⟩
        · have h := HQ.out.1
          rw [List.length_append]
          unfold strs at h ⊢
          rw [List.map_append]
          exact h
        · rw [← HS.out, Nat.sub_self]
          simp
      · rw [if_neg h1] at hst
        have HS := Lib.hid hst
        clear hst
        have e1 : ((x : Int) == 10) = false := by simp; omega
        go_wp2_with fail
        exact ⟨⟨k + 1, g, ls, by omega, by omega, by omega, ret_i (by omega), rfl, HN.out.1, HN.out.2, HS⟩, by simp only [intOf]; omega⟩
    · have hst := HK.out
      have hd : t.drop k = [] := List.drop_eq_nil_of_le (by omega)
      rw [hd, Pl.linesDF, List.take_of_length_le (by simp; omega)] at hst
      have HN := Lib.hid (And.intro hown hb)
      have HBw : B ≤ wr.heap.size := by rw [← hB]; exact Nat.le_trans (by rw [hB]; exact Nat.le_refl _) hb.size
      clear hown hb HK
      by_cases hgl : g < t.length
      · rw [if_neg (by intro e; have := congrArg List.length e; simp at this; omega)] at hst
        obtain ⟨y, hy⟩ : ∃ y, t.drop g = y := ⟨_, rfl⟩
        rw [hy] at hst
        have hsl : ∀ W', (Instr.slice 9 (.string ⟨t.toArray⟩) (some (.int .i64 (g : Int))) none none).run Tryz.prog W' = .ok (.string ⟨y.toArray⟩) W' := by
          intro W'
          rw [← hy]
          simp [go_sem, Nat.le_of_lt hgl]
          exact List.take_of_length_le (by simp)
        subst hst
        go_wp2_with (at_builtin; refine push_k rfl (.tmp 30) (.tmp 34) 55 rfl B 9 (.string ⟨#[]⟩) 1 16 Tryz.underlying55 info_str rfl (by decide) wr _ _ _ [.string ⟨y.toArray⟩] rfl rfl HN.out.1 rfl (by intro u hu; simp at hu; subst hu; rfl) (by omega) (by decide) HBw ?_; intro A1 cc w3 hown3 hb3; have HQ := Lib.hid (And.intro hown3 hb3); clear hown3 hb3)
        go_ret
        have h := HQ.out.1
        refine ⟨A1, cc, by rw [List.length_append]; rfl, ?_, by rw [hB]; exact HN.out.2.trans HQ.out.2⟩
        rw [List.length_append]
        unfold strs at h ⊢
        rw [List.map_append, hB]
        exact h
      · rw [if_pos (List.drop_eq_nil_of_le (by omega)), List.append_nil] at hst
        subst hst
        go_wp2_with fail
        go_ret
        exact ⟨vA, vc, rfl, by rw [hB]; exact HN.out.1, by rw [hB]; exact HN.out.2⟩
end Go.Proofs.YtmmnkoeajdeldaaGreatDoor
