/- asm.quoted. No condition beside the size. asm.listed. asm.List. How a program (api.Exe) that came in is opened. -/
import Derived.Test.YtmmnkoeajdeldaaGreatDoorAsT5
import Derived.Test.YtmmnkoeajdeldaaGreatDoorAsTx
import Derived.Test.YtmmnkoeajdeldaaGreatDoorAsS
import Derived.Test.YtmmnkoeajdeldaaGreatDoorFmtU
import Derived.Test.YtmmnkoeajdeldaaGreatDoorShelf
import Derived.Test.YtmmnkoeajdeldaaGreatDoorIsaT
import Derived.Test.YtmmnkoeajdeldaaGreatDoorIsaD
import Derived.Test.YtmmnkoeajdeldaaGreatDoorAsLaid
import Derived.Test.YtmmnkoeajdeldaaGreatDoorOpen
import Derived.Lib.SmallJoins
namespace Go.Proofs.YtmmnkoeajdeldaaGreatDoor
open Go.RowKit
set_option linter.unusedVariables false
set_option linter.unusedSimpArgs false
attribute [local go_sem] ba_get ba_cut ba_add
theorem own_lit1 (w : World) (base : Nat) (xs : List Value) (e : TypeId) (n : Nat) (hn : xs.length = n) (hb : base ≤ w.heap.size) (hm : n ≤ maxLen) : (w.alloc (.cells xs.toArray e)).ownsRow base e 1 (.slice (some ⟨w.heap.size, 0, none⟩) n n) n xs :=
  ⟨by omega, .inr ⟨w.heap.size, n, xs.toArray, rfl, hb, heap_alloc_new w _, Nat.le_refl _, hm, by simp [hn], by rw [Nat.mul_one]; simp [← hn]⟩⟩
/-- append of a literal row to a row of bytes of the call's own. -/
theorem push_row {P : Program} {ops : Array Oper} {rest : List Oper} {o : Oper} {a : Act} {Q : Exit → Act → World → Prop} (hgd : o.guard = none) (s x : Operand) (t : TypeId)
    (ho : o.op = .call { callee := .builtin .append, args := #[s, x], argTypes := #[t, t] })
    (base : Nat) (e : TypeId) (z : Value) (bytes : Nat) (ht : P.underlying t = some (.slice e)) (hi : (P.info? e).map (fun i => (i.zero, i.size, i.bytes)) = some (some z, 1, bytes)) (hzs : z.cells.size = 1)
    (w : World) (v : Value) (n : Nat) (xs : List Value) (m : Nat) (ys : List Value) (hm : ys.length = m) (hs : a.eval s = v) (hown : w.ownsRow base e 1 v n xs) (hx : a.eval x = .slice (some ⟨w.heap.size, 0, none⟩) m m) (h1 : ∀ u ∈ ys, u.oneCell' = true)
    (hbytes : (n + m) * bytes ≤ 140737488355328) (hb0 : 1 ≤ bytes) (hbase : base ≤ w.heap.size)
    (h : ∀ v' w', w'.ownsRow base e 1 v' (n + m) (xs ++ ys) → Below base w w' → wpList P ops Q rest (a.put o.dst v') w') : wpList P ops Q (o :: rest) a (w.alloc (.cells ys.toArray e)) := by
  have hr := Rd.new w ys e
  rw [hm] at hr
  refine push_many hgd s x t ho base e z 1 bytes ht hi hzs (by decide) _ v n xs (some ⟨w.heap.size, 0, none⟩) m m ys hs (hown.alloc _) hx hr (fun e => by cases e) h1 hbytes hb0 (by simp; omega) fun v' w' h2 h3 => ?_
  exact h v' w' h2 (((Below.refl _ _).alloc hbase _).trans h3)
theorem quoB_snoc (s : List UInt8) (k : Nat) (h : k < s.length) : Pl.quoB (s.take (k + 1)) = Pl.quoB (s.take k) ++ Pl.qB s[k] := by
  unfold Pl.quoB
  rw [List.take_succ_eq_append_getElem h, List.flatMap_append]
  congr 1
  simp [List.flatMap]
theorem hex_at (q : Nat) (v : Int) (hv : v = (q : Int)) (h : q < 16) (W : World) : (Instr.index 9 (.string ⟨#[48, 49, 50, 51, 52, 53, 54, 55, 56, 57, 97, 98, 99, 100, 101, 102]⟩) (.int .u8 v)).run Tryz.prog W = .ok (.int .u8 ((Pl.hexC q).toNat : Int)) W := by
  subst hv
  obtain ⟨L, hL⟩ : ∃ L : List UInt8, [48, 49, 50, 51, 52, 53, 54, 55, 56, 57, 97, 98, 99, 100, 101, 102] = L := ⟨_, rfl⟩
  have hl : L.length = 16 := by rw [← hL]; rfl
  have hc : Pl.hexC q = L[q] := by
    unfold Pl.hexC
    rw [hL, List.getD_eq_getElem?_getD, List.getElem?_eq_getElem (by omega)]
    rfl
  show (Instr.index 9 (.string ⟨[48, 49, 50, 51, 52, 53, 54, 55, 56, 57, 97, 98, 99, 100, 101, 102].toArray⟩) (.int .u8 (q : Int))).run Tryz.prog W = _
  rw [hL, hc]
  have hq : q < L.length := by omega
  simp [go_sem, hq]
theorem and15_all : ((List.range 256).all fun x => bits BinOp.and .u8 (x : Int) 15 == ((x % 16 : Nat) : Int)) = true := by kernel_rfl
theorem own_conv34 {w : World} {base : Nat} {v : Value} {bl : List UInt8} (h : w.ownsRow base 5 1 v (bl.length + 1) (u8C bl ++ [.int .u8 34])) : (convert 59 9 v).run Tryz.prog w = .ok (.string ⟨(bl ++ [34]).toArray⟩) w := own_conv (bl := bl ++ [34]) (by rw [List.length_append]; simpa [u8C] using h)
set_option maxRecDepth 100000 in
set_option maxHeartbeats 2000000 in
theorem quoted_any (s : List UInt8) (hs : s.length ≤ 100000) (w : World) : Calls Tryz.prog 44 #[.string ⟨s.toArray⟩] w (RetB (fun v _ => v = .string ⟨(Pl.quoT s).toArray⟩) w) := by
  go_enter Tryz.func44, Tryz.ntmps44
  go_wp2_with fail
  go_loopw [3, 9] (fun v i wr => ∃ (k : Nat) (bl : List UInt8), k ≤ s.length ∧ i = .int .i64 (k : Int) ∧ bl.length ≤ 1 + 4 * k ∧ wr.ownsRow w.heap.size 5 1 v bl.length (u8C bl) ∧ Below w.heap.size w wr ∧ Hid (bl = 34 :: Pl.quoB (s.take k))) (fun _ i _ => s.length - (intOf i).toNat)
  case atStart => exact ⟨0, [34], by omega, rfl, by simp, own_lit1 w w.heap.size [.int .u8 34] 5 1 rfl (Nat.le_refl _) (by decide), (Below.refl _ _).alloc (Nat.le_refl _) _, Lib.hid (by simp [Pl.quoB])⟩
  case round =>
    obtain ⟨k, bl, hk, rfl, hbl, hown, hbw, HB⟩ := hrel
    obtain ⟨vA, vc, rfl⟩ := own_form' hown
    by_cases hkn : k < s.length
    · have hqs := quoB_snoc s k hkn
      obtain ⟨c, hc⟩ : ∃ c, s[k] = c := ⟨_, rfl⟩
      have hix : ∀ W', (Instr.index 9 (.string ⟨s.toArray⟩) (.int .i64 (k : Int))).run Tryz.prog W' = .ok (.int .u8 (c.toNat : Int)) W' := by
        intro W'
        rw [← hc]
        simp [go_sem, hkn]
      have hcl := c.toNat_lt
      rw [hc] at hqs
      obtain ⟨x, hx⟩ : ∃ x, c.toNat = x := ⟨_, rfl⟩
      rw [hx] at hix hcl
      have hhi := hbw.size
      have HC := Lib.hid (And.intro hqs (And.intro hx (And.intro hown (And.intro hbw hhi))))
      clear hqs hc hown hbw hhi hx
      by_cases h1 : x = 34 ∨ x = 92
      · have hq : Pl.qB c = [92, c] := by unfold Pl.qB; rw [HC.out.2.1, if_pos h1]
        have HQ := Lib.hid hq
        clear hq
        rcases h1 with rfl | rfl
        · go_wp2_with (at_builtin; refine push_row rfl (.tmp 31) (.tmp 33) 59 rfl w.heap.size 5 (.int .u8 0) 1 Tryz.underlying59 info_u8b rfl wr _ _ _ 2 [.int .u8 92, .int .u8 34] rfl rfl HC.out.2.2.1 rfl (by decide) (by omega) (by omega) HC.out.2.2.2.2 ?_; intro v1 w3 hown1 hb1; have HO := Lib.hid (And.intro hown1 hb1); clear hown1 hb1)
          refine ⟨⟨k + 1, bl ++ [92, c], by omega, ret_i (by omega), by simp; omega, ?_, HC.out.2.2.2.1.trans HO.out.2, Lib.hid ?_⟩, by simp only [intOf]; omega⟩
          · have h := HO.out.1
            rw [List.length_append]
            simpa [u8C, HC.out.2.1] using h
          · rw [HB.out, HC.out.1, HQ.out]
            rfl
        · go_wp2_with (at_builtin; refine push_row rfl (.tmp 31) (.tmp 33) 59 rfl w.heap.size 5 (.int .u8 0) 1 Tryz.underlying59 info_u8b rfl wr _ _ _ 2 [.int .u8 92, .int .u8 92] rfl rfl HC.out.2.2.1 rfl (by decide) (by omega) (by omega) HC.out.2.2.2.2 ?_; intro v1 w3 hown1 hb1; have HO := Lib.hid (And.intro hown1 hb1); clear hown1 hb1)
          refine ⟨⟨k + 1, bl ++ [92, c], by omega, ret_i (by omega), by simp; omega, ?_, HC.out.2.2.2.1.trans HO.out.2, Lib.hid ?_⟩, by simp only [intOf]; omega⟩
          · have h := HO.out.1
            rw [List.length_append]
            simpa [u8C, HC.out.2.1] using h
          · rw [HB.out, HC.out.1, HQ.out]
            rfl
      have e34 : ((x : Int) == 34) = false := by rw [beq_eq_false_iff_ne]; omega
      have e92 : ((x : Int) == 92) = false := by rw [beq_eq_false_iff_ne]; omega
      by_cases h2 : x = 10
      · have hq : Pl.qB c = [92, 110] := by unfold Pl.qB; rw [HC.out.2.1, if_neg h1, if_pos h2]
        have HQ := Lib.hid hq
        clear hq
        subst h2
        go_wp2_with (at_builtin; refine push_row rfl (.tmp 38) (.tmp 39) 59 rfl w.heap.size 5 (.int .u8 0) 1 Tryz.underlying59 info_u8b rfl wr _ _ _ 2 [.int .u8 92, .int .u8 110] rfl rfl HC.out.2.2.1 rfl (by decide) (by omega) (by omega) HC.out.2.2.2.2 ?_; intro v1 w3 hown1 hb1; have HO := Lib.hid (And.intro hown1 hb1); clear hown1 hb1)
        refine ⟨⟨k + 1, bl ++ [92, 110], by omega, ret_i (by omega), by simp; omega, ?_, HC.out.2.2.2.1.trans HO.out.2, Lib.hid ?_⟩, by simp only [intOf]; omega⟩
        · have h := HO.out.1
          rw [List.length_append]
          simpa [u8C] using h
        · rw [HB.out, HC.out.1, HQ.out]
          rfl
      have e10 : ((x : Int) == 10) = false := by rw [beq_eq_false_iff_ne]; omega
      by_cases h3 : 32 ≤ x ∧ x ≤ 126
      · have hq : Pl.qB c = [c] := by unfold Pl.qB; rw [HC.out.2.1, if_neg h1, if_neg h2, if_pos h3]
        have HQ := Lib.hid hq
        obtain ⟨g1, g2⟩ := h3
        clear hq h1 h2
        go_wp2_with (at_builtin; refine push_row rfl (.tmp 48) (.tmp 50) 59 rfl w.heap.size 5 (.int .u8 0) 1 Tryz.underlying59 info_u8b rfl wr _ _ _ 1 [.int .u8 (x : Int)] rfl rfl HC.out.2.2.1 rfl (by intro u hu; simp at hu; subst hu; rfl) (by omega) (by omega) HC.out.2.2.2.2 ?_; intro v1 w3 hown1 hb1; have HO := Lib.hid (And.intro hown1 hb1); clear hown1 hb1)
        refine ⟨⟨k + 1, bl ++ [c], by omega, ret_i (by omega), by simp; omega, ?_, HC.out.2.2.2.1.trans HO.out.2, Lib.hid ?_⟩, by simp only [intOf]; omega⟩
        · have h := HO.out.1
          rw [List.length_append]
          simpa [u8C, HC.out.2.1] using h
        · rw [HB.out, HC.out.1, HQ.out]
          rfl
      have hq : Pl.qB c = [92, 120, Pl.hexC (x / 16), Pl.hexC (x % 16)] := by unfold Pl.qB; rw [HC.out.2.1, if_neg h1, if_neg h2, if_neg h3]
      have HQ := Lib.hid hq
      clear hq
      go_upto_region 6 with (fail)
      all_goals try (exfalso; omega)
      all_goals
        refine wp_region_held_drew (S := (fun _ => True)) (by kernel_rfl) trivial (fun hHeld => ?_)
        have hix1 : ∀ W', (Instr.index 9 (.string ⟨#[48, 49, 50, 51, 52, 53, 54, 55, 56, 57, 97, 98, 99, 100, 101, 102]⟩) (.int .u8 ((x : Int) / 16))).run Tryz.prog W' = .ok (.int .u8 ((Pl.hexC (x / 16)).toNat : Int)) W' := fun W' => hex_at _ _ (by omega) (by omega) W'
        have hix2 : ∀ W', (Instr.index 9 (.string ⟨#[48, 49, 50, 51, 52, 53, 54, 55, 56, 57, 97, 98, 99, 100, 101, 102]⟩) (.int .u8 ((x % 16 : Nat) : Int))).run Tryz.prog W' = .ok (.int .u8 ((Pl.hexC (x % 16)).toNat : Int)) W' := fun W' => hex_at _ _ rfl (by omega) W'
        have hand := List.all_eq_true.1 and15_all x (List.mem_range.2 (by omega))
        simp only [beq_iff_eq] at hand
        obtain ⟨ca, hca⟩ : ∃ z, Pl.hexC (x / 16) = z := ⟨_, rfl⟩
        obtain ⟨cb, hcb⟩ : ∃ z, Pl.hexC (x % 16) = z := ⟨_, rfl⟩
        rw [hca] at hix1
        rw [hcb] at hix2
        obtain ⟨q16, hq16⟩ : ∃ z, x % 16 = z := ⟨_, rfl⟩
        rw [hq16] at hix2 hand hcb
        have HE := Lib.hid (And.intro hca hcb)
        clear hca hcb
        refine wpAnyH_take (i := 0) (v := ?_) rfl (by kernel_rfl) (by kernel_rfl) (by kernel_rfl) (fun _ _ _ h => h) (Or.inl ⟨by kernel_rfl, ?_⟩) hHeld ?_
        rotate_left
        · (intro w' hSw; (try dsimp only at hSw); go_simp; try with_reducible rfl)
        simp only [Act.put, List.setIfInBounds_toArray, List.set_cons_zero, List.set_cons_succ, List.getElem_toArray, List.getElem_cons_succ, List.getElem_cons_zero]
        refine wpAnyH_take (i := 1) (v := ?_) rfl (by kernel_rfl) (by kernel_rfl) (by kernel_rfl) (fun _ _ _ h => h) (Or.inl ⟨by kernel_rfl, ?_⟩) hHeld ?_
        rotate_left
        · (intro w' hSw; (try dsimp only at hSw); go_simp; try with_reducible rfl)
        simp only [Act.put, List.setIfInBounds_toArray, List.set_cons_zero, List.set_cons_succ, List.getElem_toArray, List.getElem_cons_succ, List.getElem_cons_zero]
        refine wpAnyH_take (i := 2) (v := ?_) rfl (by kernel_rfl) (by kernel_rfl) (by kernel_rfl) (fun _ _ _ h => h) (Or.inl ⟨by kernel_rfl, ?_⟩) hHeld ?_
        rotate_left
        · (intro w' hSw; (try dsimp only at hSw); go_simp; try with_reducible rfl)
        simp only [Act.put, List.setIfInBounds_toArray, List.set_cons_zero, List.set_cons_succ, List.getElem_toArray, List.getElem_cons_succ, List.getElem_cons_zero]
        refine wpAnyH_take (i := 3) (v := ?_) rfl (by kernel_rfl) (by kernel_rfl) (by kernel_rfl) (fun _ _ _ h => h) (Or.inl ⟨by kernel_rfl, ?_⟩) hHeld ?_
        rotate_left
        · (intro w' hSw; (try dsimp only at hSw); go_simp; try with_reducible rfl)
        simp only [Act.put, List.setIfInBounds_toArray, List.set_cons_zero, List.set_cons_succ, List.getElem_toArray, List.getElem_cons_succ, List.getElem_cons_zero]
        refine wpAnyH_take (i := 4) (v := ?_) rfl (by kernel_rfl) (by kernel_rfl) (by kernel_rfl) (fun _ _ _ h => h) (Or.inl ⟨by kernel_rfl, ?_⟩) hHeld ?_
        rotate_left
        · (intro w' hSw; (try dsimp only at hSw); go_simp; try with_reducible rfl)
        simp only [Act.put, List.setIfInBounds_toArray, List.set_cons_zero, List.set_cons_succ, List.getElem_toArray, List.getElem_cons_succ, List.getElem_cons_zero]
        refine wpAnyH_take (i := 5) (v := ?_) rfl (by kernel_rfl) (by kernel_rfl) (by kernel_rfl) (fun _ _ _ h => h) (Or.inl ⟨by kernel_rfl, ?_⟩) hHeld ?_
        rotate_left
        · (intro w' hSw; (try dsimp only at hSw); go_simp; try with_reducible rfl)
        simp only [Act.put, List.setIfInBounds_toArray, List.set_cons_zero, List.set_cons_succ, List.getElem_toArray, List.getElem_cons_succ, List.getElem_cons_zero]
        refine wpAnyH_take (i := 6) (v := ?_) rfl (by kernel_rfl) (by kernel_rfl) (by kernel_rfl) (fun _ _ _ h => h) (Or.inl ⟨by kernel_rfl, ?_⟩) hHeld ?_
        rotate_left
        · (intro w' hSw; (try dsimp only at hSw); go_simp; try with_reducible rfl)
        simp only [Act.put, List.setIfInBounds_toArray, List.set_cons_zero, List.set_cons_succ, List.getElem_toArray, List.getElem_cons_succ, List.getElem_cons_zero]
        refine wpAnyH_ready (rs := [7]) (by kernel_rfl) (by simp) (AllReadyH.cons rfl (fun K hK => ?_) AllReadyH.nil)
        go_simp
        refine hK.out _ _ trivial (fun hHeld => ?_)
        clear hK K
        (try simp only [Act.put, List.setIfInBounds_toArray, List.set_cons_zero, List.set_cons_succ, List.getElem_toArray, List.getElem_cons_succ, List.getElem_cons_zero])
        refine wpAnyH_ready (rs := [8]) (by kernel_rfl) (by simp) (AllReadyH.cons rfl (fun K hK => ?_) AllReadyH.nil)
        refine step_push_a rfl (.tmp 15) (.tmp 22) 59 rfl w.heap.size 5 (.int .u8 0) 1 1 Tryz.underlying59 info_u8b rfl (by decide) _ _ _ _ (some ⟨wr.heap.size, 0, none⟩) 4 4 [.int .u8 92, .int .u8 120, .int .u8 (ca.toNat : Int), .int .u8 (cb.toNat : Int)] rfl ((HC.out.2.2.1.alloc _).drew) rfl (Rd.new wr _ _).drew (fun e => by cases e) (by intro u hu; simp at hu; rcases hu with rfl | rfl | rfl | rfl <;> rfl) (by omega) (by decide) (by simp; exact Nat.le_succ_of_le HC.out.2.2.2.2) ?_
        intro v' W4 hown4 hb4 hblk
        refine hK.out _ _ trivial (fun hHeld => ?_)
        clear hK K
        (try simp only [Act.put, List.setIfInBounds_toArray, List.set_cons_zero, List.set_cons_succ, List.getElem_toArray, List.getElem_cons_succ, List.getElem_cons_zero])
        refine wpAnyH_take (i := 9) (v := ?_) rfl (by kernel_rfl) (by kernel_rfl) (by kernel_rfl) (fun _ _ _ h => h) (Or.inl ⟨by kernel_rfl, ?_⟩) hHeld ?_
        rotate_left
        · (intro w' hSw; (try dsimp only at hSw); go_simp; try with_reducible rfl)
        simp only [Act.put, List.setIfInBounds_toArray, List.set_cons_zero, List.set_cons_succ, List.getElem_toArray, List.getElem_cons_succ, List.getElem_cons_zero]
        refine wpAnyH_done (by kernel_rfl) ?_ _
        go_wp2_with fail
        have hb1 : Below w.heap.size wr ((wr.alloc (.cells #[.int .u8 92, .int .u8 120, .int .u8 (ca.toNat : Int), .int .u8 (cb.toNat : Int)] 5)).drew) := ((Below.refl _ _).alloc HC.out.2.2.2.2 _).drew
        refine ⟨⟨k + 1, bl ++ [92, 120, ca, cb], by omega, ret_i (by omega), by simp; omega, ?_, HC.out.2.2.2.1.trans (hb1.trans hb4), Lib.hid ?_⟩, by simp only [intOf]; omega⟩
        · rw [List.length_append]
          simpa [u8C] using hown4
        · rw [HB.out, HC.out.1, HQ.out, hq16, HE.out.1, HE.out.2]
          rfl
    · have hbe : bl = 34 :: Pl.quoB s := by rw [HB.out, List.take_of_length_le (by omega)]
      have hhi := hbw.size
      have HC := Lib.hid (And.intro hown (And.intro hbw (And.intro hhi hbe)))
      clear hown hbw hhi hbe HB
      go_wp2_with (at_builtin; refine push_row rfl (.tmp 53) (.tmp 54) 59 rfl w.heap.size 5 (.int .u8 0) 1 Tryz.underlying59 info_u8b rfl wr _ _ _ 1 [.int .u8 34] rfl rfl HC.out.1 rfl (by decide) (by omega) (by omega) HC.out.2.2.1 ?_; intro v1 w3 hown1 hb1; have hcv := own_conv34 hown1; have HO := Lib.hid hb1; clear hown1 hb1)
      go_ret
      refine ⟨_, rfl, ?_, HC.out.2.1.trans HO.out⟩
      rw [HC.out.2.2.2]
      rfl
end Go.Proofs.YtmmnkoeajdeldaaGreatDoor
namespace Go.Proofs.YtmmnkoeajdeldaaGreatDoor
open Go.RowKit
set_option linter.unusedVariables false
set_option linter.unusedSimpArgs false
attribute [local go_sem] ba_get ba_cut ba_add
/-- What is known of a program that came in. -/
structure XeOk (X : Pl.Exe) : Prop where
  t : X.text.length ≤ 140737488355328
  d : X.data.length ≤ 140737488355328
  r0 : -9223372036854775808 ≤ X.room
  r1 : X.room ≤ 9223372036854775807
  e : X.entry < 4294967296
  w : ∀ y ∈ X.text, y < 4294967296
set_option maxRecDepth 100000 in
set_option maxHeartbeats 2000000 in
theorem listed_any (A : Option Addr) (c : Nat) (X : Pl.Exe) (w : World) (h : XeOk X) : Calls Tryz.prog 41 #[xeV A c X, .int .i64 ((Pl.padN X.data.length : Nat) : Int)] w (RetB (fun v _ => v = .bool (Pl.listB X)) w) := by
  obtain ⟨R, hR⟩ : ∃ R, Pl.listB X = R := ⟨_, rfl⟩
  have hB : R = decide (0 ≤ X.room ∧ X.room ≤ 65536 ∧ X.text.length ≤ 150 ∧ X.data.length ≤ 8000 ∧ (0 < X.room → (Pl.padN X.data.length : Int) ≤ X.room) ∧ (X.entry = 0 ∨ X.entry % 4 = 0 ∧ X.entry / 4 < X.text.length)) := by rw [← hR]; rfl
  rw [hR]
  clear hR
  obtain ⟨t, d, ro, en⟩ := X
  obtain ⟨h1, h2, h3, h4, h5, -⟩ := h
  unfold xeV
  dsimp only at h1 h2 h3 h4 h5 hB ⊢
  obtain ⟨n, hn⟩ : ∃ n, t.length = n := ⟨_, rfl⟩
  obtain ⟨p, hp⟩ : ∃ p, Pl.padN d.length = p := ⟨_, rfl⟩
  rw [hn] at h1 hB ⊢
  rw [hp] at hB ⊢
  have hp3 : p ≤ 3 := by rw [← hp]; unfold Pl.padN Pl.up; omega
  obtain ⟨ds, hds⟩ : ∃ ds, d.length = ds := ⟨_, rfl⟩
  rw [hds] at h2 hB
  have hfin : ∀ (b : Bool) (wx : World), R = b → Below w.heap.size w wx → ∃ v, Ending.returned (Value.bool b) = .returned v ∧ v = .bool R ∧ Below w.heap.size w wx := fun b wx e hb => ⟨_, rfl, by rw [e], hb⟩
  clear hn hp
  go_enter Tryz.func41, Tryz.ntmps41
  by_cases c1 : ro < 0
  · have hR : R = false := by rw [hB]; exact decide_eq_false (by omega)
    clear hB
    go_wp2_with fail
    go_ret
    exact ⟨_, rfl, (by first | rfl | (rw [hR]; rfl)), (Below.refl _ _).alloc (Nat.le_refl _) _⟩
  by_cases c2 : 65536 < ro
  · have hR : R = false := by rw [hB]; exact decide_eq_false (by omega)
    clear hB
    go_wp2_with fail
    go_ret
    exact ⟨_, rfl, (by first | rfl | (rw [hR]; rfl)), (Below.refl _ _).alloc (Nat.le_refl _) _⟩
  by_cases c3 : 150 < n
  · have hR : R = false := by rw [hB]; exact decide_eq_false (by omega)
    clear hB
    go_wp2_with fail
    go_ret
    exact ⟨_, rfl, (by first | rfl | (rw [hR]; rfl)), (Below.refl _ _).alloc (Nat.le_refl _) _⟩
  by_cases c4 : 8000 < ds
  · have hR : R = false := by rw [hB]; exact decide_eq_false (by omega)
    clear hB
    subst hds
    go_wp2_with fail
    go_ret
    exact ⟨_, rfl, (by first | rfl | (rw [hR]; rfl)), (Below.refl _ _).alloc (Nat.le_refl _) _⟩
  subst hds
  by_cases c5 : 0 < ro ∧ ro < (p : Int)
  · have hR : R = false := by rw [hB]; exact decide_eq_false (by omega)
    obtain ⟨c6, c7⟩ := c5
    clear hB
    go_wp2_with fail
    go_ret
    exact ⟨_, rfl, (by first | rfl | (rw [hR]; rfl)), (Below.refl _ _).alloc (Nat.le_refl _) _⟩
  by_cases c8 : ro = 0
  · subst c8
    have c8 : True := trivial
    clear c1 c2
    by_cases c9 : en = 0
    · have hR : R = true := by rw [hB]; exact decide_eq_true (by omega)
      subst c9
      clear hB c5 c8
      go_wp2_with fail
      go_ret
      exact ⟨_, rfl, (by first | rfl | (rw [hR]; rfl)), (Below.refl _ _).alloc (Nat.le_refl _) _⟩
    have c10 : ((en : Int) == 0) = false := by rw [beq_eq_false_iff_ne]; omega
    by_cases c11 : en % 4 = 0
    rotate_left
    · have hR : R = false := by rw [hB]; exact decide_eq_false (by omega)
      have c12 : ((en : Int) % 4 == 0) = false := by rw [beq_eq_false_iff_ne]; omega
      clear hB c5 c8
      go_wp2_with fail
      go_ret
      exact ⟨_, rfl, (by first | rfl | (rw [hR]; rfl)), (Below.refl _ _).alloc (Nat.le_refl _) _⟩
    have c12 : ((en : Int) % 4 == 0) = true := by rw [beq_iff_eq]; omega
    by_cases c13 : en / 4 < n
    · have hR : R = true := by rw [hB]; exact decide_eq_true (by omega)
      have c14 : decide ((en : Int) / 4 < (n : Int)) = true := decide_eq_true (by omega)
      clear hB c5 c8
      go_wp2_with fail
      go_ret
      refine ⟨_, rfl, ?_, (Below.refl _ _).alloc (Nat.le_refl _) _⟩
      first | rfl | (rw [hR, ← c14]; rfl) | (show Value.bool (decide ((en : Int) / 4 < (n : Int))) = _; rw [c14]; first | rfl | rw [hR])
    · have hR : R = false := by rw [hB]; exact decide_eq_false (by omega)
      have c14 : decide ((en : Int) / 4 < (n : Int)) = false := decide_eq_false (by omega)
      clear hB c5 c8
      go_wp2_with fail
      go_ret
      refine ⟨_, rfl, ?_, (Below.refl _ _).alloc (Nat.le_refl _) _⟩
      first | rfl | (rw [hR, ← c14]; rfl) | (show Value.bool (decide ((en : Int) / 4 < (n : Int))) = _; rw [c14]; first | rfl | rw [hR])
  have c6 : 0 < ro := by omega
  have c7 : ¬ ro < (p : Int) := by omega
  by_cases c9 : en = 0
  · have hR : R = true := by rw [hB]; exact decide_eq_true (by omega)
    subst c9
    clear hB c5 c8
    go_wp2_with fail
    go_ret
    exact ⟨_, rfl, (by first | rfl | (rw [hR]; rfl)), (Below.refl _ _).alloc (Nat.le_refl _) _⟩
  have c10 : ((en : Int) == 0) = false := by rw [beq_eq_false_iff_ne]; omega
  by_cases c11 : en % 4 = 0
  rotate_left
  · have hR : R = false := by rw [hB]; exact decide_eq_false (by omega)
    have c12 : ((en : Int) % 4 == 0) = false := by rw [beq_eq_false_iff_ne]; omega
    clear hB c5 c8
    go_wp2_with fail
    go_ret
    exact ⟨_, rfl, (by first | rfl | (rw [hR]; rfl)), (Below.refl _ _).alloc (Nat.le_refl _) _⟩
  have c12 : ((en : Int) % 4 == 0) = true := by rw [beq_iff_eq]; omega
  by_cases c13 : en / 4 < n
  · have hR : R = true := by rw [hB]; exact decide_eq_true (by omega)
    have c14 : decide ((en : Int) / 4 < (n : Int)) = true := decide_eq_true (by omega)
    clear hB c5 c8
    go_wp2_with fail
    go_ret
    refine ⟨_, rfl, ?_, (Below.refl _ _).alloc (Nat.le_refl _) _⟩
    first | rfl | (rw [hR, ← c14]; rfl) | (show Value.bool (decide ((en : Int) / 4 < (n : Int))) = _; rw [c14]; first | rfl | rw [hR])
  · have hR : R = false := by rw [hB]; exact decide_eq_false (by omega)
    have c14 : decide ((en : Int) / 4 < (n : Int)) = false := decide_eq_false (by omega)
    clear hB c5 c8
    go_wp2_with fail
    go_ret
    refine ⟨_, rfl, ?_, (Below.refl _ _).alloc (Nat.le_refl _) _⟩
    first | rfl | (rw [hR, ← c14]; rfl) | (show Value.bool (decide ((en : Int) / 4 < (n : Int))) = _; rw [c14]; first | rfl | rw [hR])
end Go.Proofs.YtmmnkoeajdeldaaGreatDoor
namespace Go.Proofs.YtmmnkoeajdeldaaGreatDoor
open Go.RowKit
set_option linter.unusedVariables false
set_option linter.unusedSimpArgs false
attribute [local go_sem] ba_get ba_cut ba_add
theorem decX_ok {y : Nat} (h : Pl.decOk y = true) : Pl.InsOk (Pl.decX y) := by
  have hd := Pl.decOk_iff h
  have ho := Pl.enc_op hd.1
  have hp := Pl.enc_parts hd.1
  exact ⟨by omega, by omega, by omega, by omega, by omega, by omega⟩
theorem linesE_app (en : Nat) : ∀ (a b : List Nat) (i : Nat), Pl.linesE en i (a ++ b) = Pl.linesE en i a ++ Pl.linesE en (i + a.length) b
  | [], b, i => by simp [Pl.linesE]
  | w :: a, b, i => by
    show Pl.lineE en i w ++ Pl.linesE en (i + 1) (a ++ b) = _
    rw [linesE_app en a b, ← List.append_assoc]
    show _ = (Pl.lineE en i w ++ Pl.linesE en (i + 1) a) ++ Pl.linesE en (i + (a.length + 1)) b
    rw [show i + 1 + a.length = i + (a.length + 1) by omega]
/-- The text of the first k words. -/
def txK (en : Nat) (t : List Nat) (k : Nat) : List UInt8 := Pl.joinN (Pl.linesE en 0 (t.take k))
theorem txK_succ (en : Nat) (t : List Nat) (k : Nat) (h : k < t.length) : txK en t (k + 1) = txK en t k ++ ((if en ≠ 0 ∧ en / 4 = k then Pl.startT ++ [10] else []) ++ (Pl.lineW t[k] ++ [10])) := by
  unfold txK
  rw [List.take_succ_eq_append_getElem h, linesE_app, Pl.joinN_app, List.length_take, Nat.zero_add, Nat.min_eq_left (by omega)]
  congr 1
  show Pl.joinN (Pl.lineE en k t[k] ++ []) = _
  rw [List.append_nil]
  unfold Pl.lineE
  split
  · simp [Pl.joinN]
  · simp [Pl.joinN]
theorem txK_len (en : Nat) (t : List Nat) (k : Nat) (hw : ∀ y ∈ t, y < 4294967296) (hk : k ≤ 150) : (txK en t k).length ≤ 30300 := by
  have h := Pl.linesE_ok en (t.take k) 0 fun y hy => hw y (List.mem_of_mem_take hy)
  have h1 := Pl.joinN_le (N := 100) fun s hs => (h.1 s hs).2
  have h2 := h.2
  rw [List.length_take] at h2
  have h3 : min k t.length ≤ 150 := by omega
  unfold txK
  have := Nat.mul_le_mul_left 101 (Nat.le_trans h2 (Nat.mul_le_mul_left 2 h3))
  omega
/-- A program's four cells. -/
structure ExAt (w : World) (B : Nat) (A : Option Addr) (n c : Nat) (d : List UInt8) (ro : Int) (en : Nat) : Prop where
  c0 : w.cell? ⟨B, 0, none⟩ = some (.slice A n c)
  c1 : w.cell? ⟨B, 1, none⟩ = some (.string ⟨d.toArray⟩)
  c2 : w.cell? ⟨B, 2, none⟩ = some (.int .i64 ro)
  c3 : w.cell? ⟨B, 3, none⟩ = some (.int .u32 (en : Int))
theorem ExAt.below {w w' : World} {B : Nat} {A : Option Addr} {n c : Nat} {d : List UInt8} {ro : Int} {en : Nat} (h : ExAt w B A n c d ro en) {M : Nat} (hb : Below M w w') (hB : B < M) : ExAt w' B A n c d ro en :=
  ⟨(hb.cell (p := ⟨_, 0, none⟩) hB).trans h.c0, (hb.cell (p := ⟨_, 1, none⟩) hB).trans h.c1, (hb.cell (p := ⟨_, 2, none⟩) hB).trans h.c2, (hb.cell (p := ⟨_, 3, none⟩) hB).trans h.c3⟩
theorem ExAt.drew {w : World} {B : Nat} {A : Option Addr} {n c : Nat} {d : List UInt8} {ro : Int} {en : Nat} (h : ExAt w B A n c d ro en) : ExAt w.drew B A n c d ro en := ⟨h.c0, h.c1, h.c2, h.c3⟩
set_option maxRecDepth 100000 in
set_option maxHeartbeats 4000000 in
theorem list_any (A : Option Addr) (c : Nat) (X : Pl.Exe) (w : World) (h : XeOk X) (hr : Rd w 1 A X.text.length (w32s X.text)) (hv : VLaw w) : Calls Tryz.prog 16 #[xeV A c X] w (RetB (fun v _ => v = .string ⟨(Pl.listT X).toArray⟩) w) := by
  have hli := fun W => listed_any A c X W h
  obtain ⟨Lb, hLb⟩ : ∃ b, Pl.listB X = b := ⟨_, rfl⟩
  obtain ⟨R, hR⟩ : ∃ R, Pl.listT X = R := ⟨_, rfl⟩
  rw [hLb] at hli
  rw [hR]
  have HX := Lib.hid (And.intro hR (And.intro hLb (And.intro h.w (And.intro hr hv))))
  clear hR hr hv
  obtain ⟨t, d, ro, en⟩ := X
  obtain ⟨h1, h2, h3, h4, h5, -⟩ := h
  unfold xeV at hli ⊢
  dsimp only at h1 h2 h3 h4 h5 hli ⊢
  have hup := fun W => up4_any d.length (d.length : Int) rfl W (by omega)
  have hp3 : Pl.up d.length 4 = d.length + Pl.padN d.length ∧ Pl.padN d.length ≤ 3 := by unfold Pl.padN Pl.up; omega
  obtain ⟨p, hp⟩ : ∃ p, Pl.padN d.length = p := ⟨_, rfl⟩
  rw [hp] at hli hp3
  rw [hp3.1] at hup
  have hsub : IntKind.i64.wrap (((d.length + p : Nat) : Int) - (d.length : Int)) = (p : Int) := by rw [IntKind.wrap_i64]; omega
  obtain ⟨n, hn⟩ : ∃ n, t.length = n := ⟨_, rfl⟩
  rw [hn] at h1 hli ⊢
  have HN := Lib.hid (And.intro hn hp)
  have HU := Lib.hid (And.intro hup hli)
  clear hup hli hn
  obtain ⟨du, hdu⟩ : ∃ z, d.length + p = z := ⟨_, rfl⟩
  rw [hdu] at HU hsub
  go_enter Tryz.func16, Tryz.ntmps16
  go_upto_region 1 with (fail)
  obtain ⟨B, hB⟩ : ∃ B, w.heap.size = B := ⟨_, rfl⟩
  obtain ⟨w1, hw1⟩ : ∃ V, w.alloc (.cells #[.slice A n c, .string ⟨d.toArray⟩, .int .i64 ro, .int .u32 (en : Int)] 26) = V := ⟨_, rfl⟩
  have hz1 : w1.heap[B]? = some (.cells #[.slice A n c, .string ⟨d.toArray⟩, .int .i64 ro, .int .u32 (en : Int)] 26 (0, 0)) := by rw [← hw1, ← hB]; exact heap_alloc_new _ _
  have hb1 : Below w.heap.size w w1 := by rw [← hw1]; exact (Below.refl _ _).alloc (Nat.le_refl _) _
  rw [hw1, hB]
  have hB1 : B < w1.heap.size := blk_lt hz1
  obtain ⟨x0, x1, x2, x3⟩ := xeA_cells hz1
  have hS1 : ExAt w1 B A n c d ro en := ⟨x0, x1, x2, x3⟩
  have H1 := Lib.hid (And.intro hS1 (And.intro hb1 hB1))
  clear hw1 hz1 hb1 hB1 hS1 x0 x1 x2 x3
  refine wp_region_held_drew (S := (fun w' => ExAt w' B A n c d ro en)) (by kernel_rfl) (by exact H1.out.1.drew) (fun hHeld => ?_)
  refine wpAnyH_take (i := 0) (v := ?_) rfl (by kernel_rfl) (by kernel_rfl) (by kernel_rfl) (fun _ _ _ h => h) (Or.inl ⟨by kernel_rfl, ?_⟩) hHeld ?_
  rotate_left
  · (intro w' hSw; obtain ⟨hS0, hS1, hS2, hS3⟩ := hSw; go_simp; try with_reducible rfl)
  simp only [Act.put, List.setIfInBounds_toArray, List.set_cons_zero, List.set_cons_succ, List.getElem_toArray, List.getElem_cons_succ, List.getElem_cons_zero]
  refine wpAnyH_take (i := 1) (v := ?_) rfl (by kernel_rfl) (by kernel_rfl) (by kernel_rfl) (fun _ _ _ h => h) (Or.inl ⟨by kernel_rfl, ?_⟩) hHeld ?_
  rotate_left
  · (intro w' hSw; obtain ⟨hS0, hS1, hS2, hS3⟩ := hSw; go_simp; try with_reducible rfl)
  simp only [Act.put, List.setIfInBounds_toArray, List.set_cons_zero, List.set_cons_succ, List.getElem_toArray, List.getElem_cons_succ, List.getElem_cons_zero]
  refine wpAnyH_take (i := 2) (v := ?_) rfl (by kernel_rfl) (by kernel_rfl) (by kernel_rfl) (fun _ _ _ h => h) (Or.inl ⟨by kernel_rfl, ?_⟩) hHeld ?_
  rotate_left
  · (intro w' hSw; obtain ⟨hS0, hS1, hS2, hS3⟩ := hSw; go_simp; try with_reducible rfl)
  simp only [Act.put, List.setIfInBounds_toArray, List.set_cons_zero, List.set_cons_succ, List.getElem_toArray, List.getElem_cons_succ, List.getElem_cons_zero]
  refine wpAnyH_take (i := 4) (v := ?_) rfl (by kernel_rfl) (by kernel_rfl) (by kernel_rfl) (fun _ _ _ h => h) (Or.inl ⟨by kernel_rfl, ?_⟩) hHeld ?_
  rotate_left
  · (intro w' hSw; obtain ⟨hS0, hS1, hS2, hS3⟩ := hSw; go_simp; try with_reducible rfl)
  simp only [Act.put, List.setIfInBounds_toArray, List.set_cons_zero, List.set_cons_succ, List.getElem_toArray, List.getElem_cons_succ, List.getElem_cons_zero]
  refine wpAnyH_take (i := 5) (v := ?_) rfl (by kernel_rfl) (by kernel_rfl) (by kernel_rfl) (fun _ _ _ h => h) (Or.inl ⟨by kernel_rfl, ?_⟩) hHeld ?_
  rotate_left
  · (intro w' hSw; obtain ⟨hS0, hS1, hS2, hS3⟩ := hSw; go_simp; try with_reducible rfl)
  simp only [Act.put, List.setIfInBounds_toArray, List.set_cons_zero, List.set_cons_succ, List.getElem_toArray, List.getElem_cons_succ, List.getElem_cons_zero]
  refine wpAnyH_take (i := 6) (v := ?_) rfl (by kernel_rfl) (by kernel_rfl) (by kernel_rfl) (fun _ _ _ h => h) (Or.inl ⟨by kernel_rfl, ?_⟩) hHeld ?_
  rotate_left
  · (intro w' hSw; obtain ⟨hS0, hS1, hS2, hS3⟩ := hSw; go_simp; try with_reducible rfl)
  simp only [Act.put, List.setIfInBounds_toArray, List.set_cons_zero, List.set_cons_succ, List.getElem_toArray, List.getElem_cons_succ, List.getElem_cons_zero]
  refine wpAnyH_ready (rs := [3]) (by kernel_rfl) (by simp) (AllReadyH.cons rfl (fun K hK => ?_) AllReadyH.nil)
  go_simp
  refine (HU.out.1 _).mono ?_
  rintro y w2 ⟨rfl, rfl⟩
  refine hK.out _ _ (by exact H1.out.1.drew) (fun hHeld => ?_)
  clear hK K
  (try simp only [Act.put, List.setIfInBounds_toArray, List.set_cons_zero, List.set_cons_succ, List.getElem_toArray, List.getElem_cons_succ, List.getElem_cons_zero])
  refine wpAnyH_take (i := 7) (v := ?_) rfl (by kernel_rfl) (by kernel_rfl) (by kernel_rfl) (fun _ _ _ h => h) (Or.inl ⟨by kernel_rfl, ?_⟩) hHeld ?_
  rotate_left
  · (intro w' hSw; obtain ⟨hS0, hS1, hS2, hS3⟩ := hSw; go_simp; try with_reducible rfl)
  simp only [Act.put, List.setIfInBounds_toArray, List.set_cons_zero, List.set_cons_succ, List.getElem_toArray, List.getElem_cons_succ, List.getElem_cons_zero]
  refine wpAnyH_take (i := 8) (v := ?_) rfl (by kernel_rfl) (by kernel_rfl) (by kernel_rfl) (fun _ _ _ h => h) (Or.inl ⟨by kernel_rfl, ?_⟩) hHeld ?_
  rotate_left
  · (intro w' hSw; obtain ⟨hS0, hS1, hS2, hS3⟩ := hSw; go_simp; try with_reducible rfl)
  simp only [Act.put, List.setIfInBounds_toArray, List.set_cons_zero, List.set_cons_succ, List.getElem_toArray, List.getElem_cons_succ, List.getElem_cons_zero]
  refine wpAnyH_done (by kernel_rfl) ?_ _
  obtain ⟨x0, x1, x2, x3⟩ := H1.out.1.drew
  go_wp2_with fail
  refine (HU.out.2 _).mono ?_
  rintro y w3 ⟨v, rfl, rfl, hb3⟩
  have hb13 : Below w1.heap.size w1 w3 := ((Below.refl w1.heap.size w1).drew).trans hb3
  have hw3 : Below w.heap.size w w3 := H1.out.2.1.trans (hb13.mono H1.out.2.1.size)
  have hS3 := H1.out.1.below hb13 H1.out.2.2
  have hB3 : B < w3.heap.size := Nat.lt_of_lt_of_le H1.out.2.2 hb13.size
  have H3 := Lib.hid (And.intro hS3 (And.intro hw3 hB3))
  clear x0 x1 x2 x3 hb3 hb13 hS3 hw3 hB3 hHeld
  cases Lb with
  | false =>
    go_wp2_with fail
    go_ret
    refine ⟨_, rfl, ?_, H3.out.2.1⟩
    rw [← HX.out.1]
    unfold Pl.listT
    rw [HX.out.2.1]
    rfl
  | true =>
    have hlb : 0 ≤ ro ∧ ro ≤ 65536 ∧ n ≤ 150 ∧ d.length ≤ 8000 ∧ (0 < ro → (p : Int) ≤ ro) ∧ (en = 0 ∨ en % 4 = 0 ∧ en / 4 < n) := by
      have h0 := of_decide_eq_true HX.out.2.1
      dsimp only at h0
      rw [HN.out.1, HN.out.2] at h0
      exact h0
    obtain ⟨l1, l2, l3, l4, l5, l6⟩ := hlb
    go_upto_region 5 with (fail)
    obtain ⟨b, hb⟩ : ∃ b, w3.heap.size = b := ⟨_, rfl⟩
    have hbn := bld_new w3.heap.size w3 (Nat.le_refl _)
    obtain ⟨w4, hw4⟩ : ∃ V, w3.alloc (.cells #[.pointer none, .slice none 0 0] 94) = V := ⟨_, rfl⟩
    have hb4 : Below w3.heap.size w3 w4 := by rw [← hw4]; exact (Below.refl _ _).alloc (Nat.le_refl _) _
    have hsz4 : b < w4.heap.size := by rw [← hw4, ← hb]; simp
    rw [hw4, hb] at hbn
    rw [hw4, hb]
    rw [hb] at hb4
    have hS4 := H3.out.1.below hb4 (by rw [← hb]; exact H3.out.2.2)
    have hBb : B < b := by rw [← hb]; exact H3.out.2.2
    have hwb : w.heap.size ≤ b := by rw [← hb]; exact H3.out.2.1.size
    have hw4' : Below w.heap.size w w4 := H3.out.2.1.trans (hb4.mono hwb)
    have H4 := Lib.hid (And.intro hbn (And.intro hS4 (And.intro hBb (And.intro hwb (And.intro hw4' hsz4)))))
    obtain ⟨x0, x1, x2, x3⟩ := hS4
    clear hw4 hb hbn hb4 hsz4 hBb hwb hw4'
    go_wp2_with fail
    clear x0 x1 x2 x3
    go_loopw [25] (fun i wr => ∃ (k : Nat), k ≤ n ∧ i = .int .i64 (k : Int) ∧ Hid (Bld b b (txK en t k) wr ∧ Below b w4 wr)) (fun i _ => n - (intOf i).toNat)
    case atStart => exact ⟨0, by omega, rfl, Lib.hid ⟨H4.out.1, Below.refl _ _⟩⟩
    case round =>
      obtain ⟨k, hk, rfl, HB⟩ := hrel
      have hwr : Below w.heap.size w wr := H4.out.2.2.2.2.1.trans (HB.out.2.mono H4.out.2.2.2.1)
      have hbs : b ≤ wr.heap.size := Nat.le_trans (Nat.le_of_lt H4.out.2.2.2.2.2) HB.out.2.size
      have hvr := HX.out.2.2.2.2.below hwr
      by_cases hkn : k < n
      · have hkl : k < t.length := by rw [HN.out.1]; exact hkn
        have hrk := HX.out.2.2.2.1.below hwr
        try dsimp only at hrk
        obtain ⟨bb, off, hAe, hbl, hcell⟩ := hrk.at1 (by rw [HN.out.1]; exact hkn)
        subst hAe
        have hc2 : (w32s t)[k]? = some (.int .u32 (t[k] : Int)) := w32_at t k hkl
        rw [hc2] at hcell
        have hy0 := HX.out.2.2.1 t[k] (List.getElem_mem hkl)
        have hsn := txK_succ en t k hkl
        have hlen := txK_len en t k HX.out.2.2.1 (by omega)
        obtain ⟨y, hy⟩ : ∃ y, t[k] = y := ⟨_, rfl⟩
        rw [hy] at hcell hsn hy0
        have hlw := (Pl.lineW_ok y hy0).2
        have hbld := HB.out.1
        obtain ⟨Xk, hXk⟩ : ∃ z, txK en t k = z := ⟨_, rfl⟩
        rw [hXk] at hsn hbld hlen
        obtain ⟨x0, x1, x2, x3⟩ := H4.out.2.1.below HB.out.2 H4.out.2.2.1
        have HY := Lib.hid (And.intro hsn (And.intro hbld (And.intro hvr (And.intro hbs hlw))))
        have hd := fun W => dec_any y W hy0
        unfold decV at hd
        clear hc2 hy hXk hsn hbld hrk hvr hbs hwr x2
        by_cases hst : en ≠ 0 ∧ en / 4 = k
        · have g1 : ((en : Int) != 0) = true := by simp; omega
          have g2 : ((en : Int) / 4 == (k : Int)) = true := by rw [beq_iff_eq]; omega
          go_wp2_with fail
          refine (bld_writeString b b Xk [115, 116, 97, 114, 116, 58, 10] wr HY.out.2.1 (by simp; omega) HY.out.2.2.2.1).mono ?_
          rintro e wa ⟨rfl, hbld2, hba, -⟩
          have hba2 : Below b w4 wa := HB.out.2.trans hba
          have HA := Lib.hid (And.intro hbld2 (And.intro hba2 (show txK en t (k + 1) = (Xk ++ [115, 116, 97, 114, 116, 58, 10]) ++ (Pl.lineW y ++ [10]) by rw [HY.out.1, if_pos hst]; simp [Pl.startT, Pl.wStart])))
          obtain ⟨Xa, hXa⟩ : ∃ z, Xk ++ [115, 116, 97, 114, 116, 58, 10] = z := ⟨_, rfl⟩
          rw [hXa] at HA
          have hla : Xa.length ≤ 30310 := by rw [← hXa]; simp; omega
          clear hbld2 hba hba2 hXa x0 x1 x3
          have hva : VLaw wa := HX.out.2.2.2.2.below (H4.out.2.2.2.2.1.trans (HA.out.2.1.mono H4.out.2.2.2.1))
          have hbs2 : b ≤ wa.heap.size := Nat.le_trans (Nat.le_of_lt H4.out.2.2.2.2.2) HA.out.2.1.size
          cases hok : Pl.decOk y with
          | true =>
            have hio := decX_ok hok
            have hT : Pl.lineW y = Pl.textI (Pl.decX y) := by unfold Pl.lineW; rw [if_pos hok]
            rw [hok] at hd
            have hlw := HY.out.2.2.2.2
            rw [hT] at hlw HA
            simp only [if_true] at hd
            obtain ⟨x, hx⟩ : ∃ x, Pl.decX y = x := ⟨_, rfl⟩
            rw [hx] at hd hio hlw HA
            have hte := fun W hO hT => itext_any x W hio hO hT
            obtain ⟨T, hTT⟩ : ∃ T, Pl.textI x = T := ⟨_, rfl⟩
            rw [hTT] at hlw HA hte
            obtain ⟨op, xa, xb, xc, imm⟩ := x
            unfold insV at hd hte
            simp only at hd hte
            have HD := Lib.hid hd
            have HT := Lib.hid hte
            have HVA := Lib.hid (And.intro hva hbs2)
            clear hd hte hio hx hTT hT hok hva hbs2
            go_wp2_with fail
            refine (fmtU_any y (by omega) _ HVA.out.1.num.tab).mono ?_
            rintro e wb ⟨v, rfl, rfl, hbb⟩
            have hyl := (Pl.itoa_len (v := (y : Int)) ⟨by omega, by omega⟩).2
            obtain ⟨iy, hiy⟩ : ∃ z, Lib.itoa (y : Int) = z := ⟨_, rfl⟩
            rw [hiy] at hyl ⊢
            have HBB := Lib.hid hbb
            clear hbb
            go_wp2_with fail
            refine (HD.out _).mono ?_
            rintro e wc ⟨v, rfl, rfl, hbc⟩
            have HBC := Lib.hid (HBB.out.trans (hbc.mono HBB.out.size))
            clear hbc
            go_wp2_with fail
            obtain ⟨wd, hwd⟩ : ∃ V, wc.alloc (.cells #[.int .u8 (op : Int), .int .u8 (xa : Int), .int .u8 (xb : Int), .int .u8 (xc : Int), .int .i32 imm] 33) = V := ⟨_, rfl⟩
            have hbd : Below wc.heap.size wc wd := by rw [← hwd]; exact (Below.refl _ _).alloc (Nat.le_refl _) _
            have HBD := Lib.hid (HBC.out.trans (hbd.mono HBC.out.size))
            rw [hwd]
            clear hwd hbd
            refine (HT.out _ (HVA.out.1.below HBD.out).asm.ops (HVA.out.1.below HBD.out).num.tab).mono ?_
            rintro e we ⟨v, rfl, rfl, hbe⟩
            have HBE := Lib.hid (HBD.out.trans (hbe.mono HBD.out.size))
            clear hbe
            go_wp2_with fail
            refine (bld_writeString b b Xa (T ++ [10]) we (HA.out.1.below HBE.out) (by simp; omega) (Nat.le_trans HVA.out.2 HBE.out.size)).mono ?_
            rintro e wf ⟨rfl, hbld3, hbf, -⟩
            have HF := Lib.hid (And.intro hbld3 (HA.out.2.1.trans ((HBE.out.mono HVA.out.2).trans hbf)))
            clear hbld3 hbf
            go_wp2_with fail
            exact ⟨⟨k + 1, by omega, ret_i (by omega), Lib.hid ⟨by rw [HA.out.2.2]; exact HF.out.1, HF.out.2⟩⟩, by simp only [intOf]; omega⟩
          | false =>
            have hT : Pl.lineW y = [114, 97, 119, 32] ++ Lib.itoa (y : Int) := by unfold Pl.lineW; rw [hok]; rfl
            rw [hok] at hd
            rw [hT] at HA
            simp only [Bool.false_eq_true, if_false] at hd
            have HD := Lib.hid hd
            have HVA := Lib.hid (And.intro hva hbs2)
            have hfu := fmtU_any y (by omega) wa hva.num.tab
            have hyl := (Pl.itoa_len (v := (y : Int)) ⟨by omega, by omega⟩).2
            obtain ⟨iy, hiy⟩ : ∃ z, Lib.itoa (y : Int) = z := ⟨_, rfl⟩
            rw [hiy] at hyl hfu HA
            have HFU := Lib.hid hfu
            clear hd hT hok hva hbs2 hfu hiy
            go_wp2_with fail
            refine HFU.out.mono ?_
            rintro e wb ⟨v, rfl, rfl, hbb⟩
            have HBB := Lib.hid hbb
            clear hbb
            go_wp2_with fail
            refine (HD.out _).mono ?_
            rintro e wc ⟨v, rfl, rfl, hbc⟩
            have HBC := Lib.hid (HBB.out.trans (hbc.mono HBB.out.size))
            clear hbc
            go_wp2_with fail
            obtain ⟨wd, hwd⟩ : ∃ V, wc.alloc (.cells #[.int .u8 0, .int .u8 0, .int .u8 0, .int .u8 0, .int .i32 0] 33) = V := ⟨_, rfl⟩
            have hbd : Below wc.heap.size wc wd := by rw [← hwd]; exact (Below.refl _ _).alloc (Nat.le_refl _) _
            have HBD := Lib.hid (HBC.out.trans (hbd.mono HBC.out.size))
            rw [hwd]
            clear hwd hbd
            refine (bld_writeString b b Xa (114 :: 97 :: 119 :: 32 :: (iy ++ [10])) wd (HA.out.1.below HBD.out) (by simp; omega) (Nat.le_trans HVA.out.2 HBD.out.size)).mono ?_
            rintro e wf ⟨rfl, hbld3, hbf, -⟩
            have HF := Lib.hid (And.intro hbld3 (HA.out.2.1.trans ((HBD.out.mono HVA.out.2).trans hbf)))
            clear hbld3 hbf
            go_wp2_with fail
            exact ⟨⟨k + 1, by omega, ret_i (by omega), Lib.hid ⟨by rw [HA.out.2.2]; exact HF.out.1, HF.out.2⟩⟩, by simp only [intOf]; omega⟩
        · have HA := Lib.hid (And.intro HY.out.2.1 (And.intro HB.out.2 (show txK en t (k + 1) = Xk ++ (Pl.lineW y ++ [10]) by rw [HY.out.1, if_neg hst]; simp)))
          have hla : Xk.length ≤ 30310 := by omega
          by_cases he0 : en = 0
          · have g1 : ((en : Int) != 0) = false := by simp; omega
            clear he0
            have hva : VLaw wr := HX.out.2.2.2.2.below (H4.out.2.2.2.2.1.trans (HA.out.2.1.mono H4.out.2.2.2.1))
            have hbs2 : b ≤ wr.heap.size := Nat.le_trans (Nat.le_of_lt H4.out.2.2.2.2.2) HA.out.2.1.size
            cases hok : Pl.decOk y with
            | true =>
              have hio := decX_ok hok
              have hT : Pl.lineW y = Pl.textI (Pl.decX y) := by unfold Pl.lineW; rw [if_pos hok]
              rw [hok] at hd
              have hlw := HY.out.2.2.2.2
              rw [hT] at hlw HA
              simp only [if_true] at hd
              obtain ⟨x, hx⟩ : ∃ x, Pl.decX y = x := ⟨_, rfl⟩
              rw [hx] at hd hio hlw HA
              have hte := fun W hO hT => itext_any x W hio hO hT
              obtain ⟨T, hTT⟩ : ∃ T, Pl.textI x = T := ⟨_, rfl⟩
              rw [hTT] at hlw HA hte
              obtain ⟨op, xa, xb, xc, imm⟩ := x
              unfold insV at hd hte
              simp only at hd hte
              have HD := Lib.hid hd
              have HT := Lib.hid hte
              have HVA := Lib.hid (And.intro hva hbs2)
              clear hd hte hio hx hTT hT hok hva hbs2
              go_wp2_with fail
              refine (fmtU_any y (by omega) _ HVA.out.1.num.tab).mono ?_
              rintro e wb ⟨v, rfl, rfl, hbb⟩
              have hyl := (Pl.itoa_len (v := (y : Int)) ⟨by omega, by omega⟩).2
              obtain ⟨iy, hiy⟩ : ∃ z, Lib.itoa (y : Int) = z := ⟨_, rfl⟩
              rw [hiy] at hyl ⊢
              have HBB := Lib.hid hbb
              clear hbb
              go_wp2_with fail
              refine (HD.out _).mono ?_
              rintro e wc ⟨v, rfl, rfl, hbc⟩
              have HBC := Lib.hid (HBB.out.trans (hbc.mono HBB.out.size))
              clear hbc
              go_wp2_with fail
              obtain ⟨wd, hwd⟩ : ∃ V, wc.alloc (.cells #[.int .u8 (op : Int), .int .u8 (xa : Int), .int .u8 (xb : Int), .int .u8 (xc : Int), .int .i32 imm] 33) = V := ⟨_, rfl⟩
              have hbd : Below wc.heap.size wc wd := by rw [← hwd]; exact (Below.refl _ _).alloc (Nat.le_refl _) _
              have HBD := Lib.hid (HBC.out.trans (hbd.mono HBC.out.size))
              rw [hwd]
              clear hwd hbd
              refine (HT.out _ (HVA.out.1.below HBD.out).asm.ops (HVA.out.1.below HBD.out).num.tab).mono ?_
              rintro e we ⟨v, rfl, rfl, hbe⟩
              have HBE := Lib.hid (HBD.out.trans (hbe.mono HBD.out.size))
              clear hbe
              go_wp2_with fail
              refine (bld_writeString b b Xk (T ++ [10]) we (HA.out.1.below HBE.out) (by simp; omega) (Nat.le_trans HVA.out.2 HBE.out.size)).mono ?_
              rintro e wf ⟨rfl, hbld3, hbf, -⟩
              have HF := Lib.hid (And.intro hbld3 (HA.out.2.1.trans ((HBE.out.mono HVA.out.2).trans hbf)))
              clear hbld3 hbf
              go_wp2_with fail
              exact ⟨⟨k + 1, by omega, ret_i (by omega), Lib.hid ⟨by rw [HA.out.2.2]; exact HF.out.1, HF.out.2⟩⟩, by simp only [intOf]; omega⟩
            | false =>
              have hT : Pl.lineW y = [114, 97, 119, 32] ++ Lib.itoa (y : Int) := by unfold Pl.lineW; rw [hok]; rfl
              rw [hok] at hd
              rw [hT] at HA
              simp only [Bool.false_eq_true, if_false] at hd
              have HD := Lib.hid hd
              have HVA := Lib.hid (And.intro hva hbs2)
              have hfu := fmtU_any y (by omega) wr hva.num.tab
              have hyl := (Pl.itoa_len (v := (y : Int)) ⟨by omega, by omega⟩).2
              obtain ⟨iy, hiy⟩ : ∃ z, Lib.itoa (y : Int) = z := ⟨_, rfl⟩
              rw [hiy] at hyl hfu HA
              have HFU := Lib.hid hfu
              clear hd hT hok hva hbs2 hfu hiy
              go_wp2_with fail
              refine HFU.out.mono ?_
              rintro e wb ⟨v, rfl, rfl, hbb⟩
              have HBB := Lib.hid hbb
              clear hbb
              go_wp2_with fail
              refine (HD.out _).mono ?_
              rintro e wc ⟨v, rfl, rfl, hbc⟩
              have HBC := Lib.hid (HBB.out.trans (hbc.mono HBB.out.size))
              clear hbc
              go_wp2_with fail
              obtain ⟨wd, hwd⟩ : ∃ V, wc.alloc (.cells #[.int .u8 0, .int .u8 0, .int .u8 0, .int .u8 0, .int .i32 0] 33) = V := ⟨_, rfl⟩
              have hbd : Below wc.heap.size wc wd := by rw [← hwd]; exact (Below.refl _ _).alloc (Nat.le_refl _) _
              have HBD := Lib.hid (HBC.out.trans (hbd.mono HBC.out.size))
              rw [hwd]
              clear hwd hbd
              refine (bld_writeString b b Xk (114 :: 97 :: 119 :: 32 :: (iy ++ [10])) wd (HA.out.1.below HBD.out) (by simp; omega) (Nat.le_trans HVA.out.2 HBD.out.size)).mono ?_
              rintro e wf ⟨rfl, hbld3, hbf, -⟩
              have HF := Lib.hid (And.intro hbld3 (HA.out.2.1.trans ((HBD.out.mono HVA.out.2).trans hbf)))
              clear hbld3 hbf
              go_wp2_with fail
              exact ⟨⟨k + 1, by omega, ret_i (by omega), Lib.hid ⟨by rw [HA.out.2.2]; exact HF.out.1, HF.out.2⟩⟩, by simp only [intOf]; omega⟩
          · have g1 : ((en : Int) != 0) = true := by simp; omega
            have g2 : ((en : Int) / 4 == (k : Int)) = false := by rw [beq_eq_false_iff_ne]; omega
            have hva : VLaw wr := HX.out.2.2.2.2.below (H4.out.2.2.2.2.1.trans (HA.out.2.1.mono H4.out.2.2.2.1))
            have hbs2 : b ≤ wr.heap.size := Nat.le_trans (Nat.le_of_lt H4.out.2.2.2.2.2) HA.out.2.1.size
            cases hok : Pl.decOk y with
            | true =>
              have hio := decX_ok hok
              have hT : Pl.lineW y = Pl.textI (Pl.decX y) := by unfold Pl.lineW; rw [if_pos hok]
              rw [hok] at hd
              have hlw := HY.out.2.2.2.2
              rw [hT] at hlw HA
              simp only [if_true] at hd
              obtain ⟨x, hx⟩ : ∃ x, Pl.decX y = x := ⟨_, rfl⟩
              rw [hx] at hd hio hlw HA
              have hte := fun W hO hT => itext_any x W hio hO hT
              obtain ⟨T, hTT⟩ : ∃ T, Pl.textI x = T := ⟨_, rfl⟩
              rw [hTT] at hlw HA hte
              obtain ⟨op, xa, xb, xc, imm⟩ := x
              unfold insV at hd hte
              simp only at hd hte
              have HD := Lib.hid hd
              have HT := Lib.hid hte
              have HVA := Lib.hid (And.intro hva hbs2)
              clear hd hte hio hx hTT hT hok hva hbs2
              go_wp2_with fail
              refine (fmtU_any y (by omega) _ HVA.out.1.num.tab).mono ?_
              rintro e wb ⟨v, rfl, rfl, hbb⟩
              have hyl := (Pl.itoa_len (v := (y : Int)) ⟨by omega, by omega⟩).2
              obtain ⟨iy, hiy⟩ : ∃ z, Lib.itoa (y : Int) = z := ⟨_, rfl⟩
              rw [hiy] at hyl ⊢
              have HBB := Lib.hid hbb
              clear hbb
              go_wp2_with fail
              refine (HD.out _).mono ?_
              rintro e wc ⟨v, rfl, rfl, hbc⟩
              have HBC := Lib.hid (HBB.out.trans (hbc.mono HBB.out.size))
              clear hbc
              go_wp2_with fail
              obtain ⟨wd, hwd⟩ : ∃ V, wc.alloc (.cells #[.int .u8 (op : Int), .int .u8 (xa : Int), .int .u8 (xb : Int), .int .u8 (xc : Int), .int .i32 imm] 33) = V := ⟨_, rfl⟩
              have hbd : Below wc.heap.size wc wd := by rw [← hwd]; exact (Below.refl _ _).alloc (Nat.le_refl _) _
              have HBD := Lib.hid (HBC.out.trans (hbd.mono HBC.out.size))
              rw [hwd]
              clear hwd hbd
              refine (HT.out _ (HVA.out.1.below HBD.out).asm.ops (HVA.out.1.below HBD.out).num.tab).mono ?_
              rintro e we ⟨v, rfl, rfl, hbe⟩
              have HBE := Lib.hid (HBD.out.trans (hbe.mono HBD.out.size))
              clear hbe
              go_wp2_with fail
              refine (bld_writeString b b Xk (T ++ [10]) we (HA.out.1.below HBE.out) (by simp; omega) (Nat.le_trans HVA.out.2 HBE.out.size)).mono ?_
              rintro e wf ⟨rfl, hbld3, hbf, -⟩
              have HF := Lib.hid (And.intro hbld3 (HA.out.2.1.trans ((HBE.out.mono HVA.out.2).trans hbf)))
              clear hbld3 hbf
              go_wp2_with fail
              exact ⟨⟨k + 1, by omega, ret_i (by omega), Lib.hid ⟨by rw [HA.out.2.2]; exact HF.out.1, HF.out.2⟩⟩, by simp only [intOf]; omega⟩
            | false =>
              have hT : Pl.lineW y = [114, 97, 119, 32] ++ Lib.itoa (y : Int) := by unfold Pl.lineW; rw [hok]; rfl
              rw [hok] at hd
              rw [hT] at HA
              simp only [Bool.false_eq_true, if_false] at hd
              have HD := Lib.hid hd
              have HVA := Lib.hid (And.intro hva hbs2)
              have hfu := fmtU_any y (by omega) wr hva.num.tab
              have hyl := (Pl.itoa_len (v := (y : Int)) ⟨by omega, by omega⟩).2
              obtain ⟨iy, hiy⟩ : ∃ z, Lib.itoa (y : Int) = z := ⟨_, rfl⟩
              rw [hiy] at hyl hfu HA
              have HFU := Lib.hid hfu
              clear hd hT hok hva hbs2 hfu hiy
              go_wp2_with fail
              refine HFU.out.mono ?_
              rintro e wb ⟨v, rfl, rfl, hbb⟩
              have HBB := Lib.hid hbb
              clear hbb
              go_wp2_with fail
              refine (HD.out _).mono ?_
              rintro e wc ⟨v, rfl, rfl, hbc⟩
              have HBC := Lib.hid (HBB.out.trans (hbc.mono HBB.out.size))
              clear hbc
              go_wp2_with fail
              obtain ⟨wd, hwd⟩ : ∃ V, wc.alloc (.cells #[.int .u8 0, .int .u8 0, .int .u8 0, .int .u8 0, .int .i32 0] 33) = V := ⟨_, rfl⟩
              have hbd : Below wc.heap.size wc wd := by rw [← hwd]; exact (Below.refl _ _).alloc (Nat.le_refl _) _
              have HBD := Lib.hid (HBC.out.trans (hbd.mono HBC.out.size))
              rw [hwd]
              clear hwd hbd
              refine (bld_writeString b b Xk (114 :: 97 :: 119 :: 32 :: (iy ++ [10])) wd (HA.out.1.below HBD.out) (by simp; omega) (Nat.le_trans HVA.out.2 HBD.out.size)).mono ?_
              rintro e wf ⟨rfl, hbld3, hbf, -⟩
              have HF := Lib.hid (And.intro hbld3 (HA.out.2.1.trans ((HBD.out.mono HVA.out.2).trans hbf)))
              clear hbld3 hbf
              go_wp2_with fail
              exact ⟨⟨k + 1, by omega, ret_i (by omega), Lib.hid ⟨by rw [HA.out.2.2]; exact HF.out.1, HF.out.2⟩⟩, by simp only [intOf]; omega⟩
      · have hkn2 : k = n := by omega
        have hlen := txK_len en t k HX.out.2.2.1 (by omega)
        have hbld := HB.out.1
        have hP : Pl.listT ⟨t, d, ro, en⟩ = txK en t k ++ ((if d = [] then [] else Pl.dataL d ++ [10]) ++ (if ro = 0 then [] else Pl.roomL (ro - (p : Int)) ++ [10])) := by
          unfold Pl.listT
          rw [HX.out.2.1, if_pos rfl]
          unfold Pl.linesX txK Pl.dataLs Pl.roomLs
          rw [List.take_of_length_le (by rw [HN.out.1]; omega), Pl.joinN_app, Pl.joinN_app]
          dsimp only
          rw [HN.out.2]
          congr 2
          · split <;> simp [Pl.joinN]
          · split <;> simp [Pl.joinN]
        rw [HX.out.1] at hP
        obtain ⟨Xk, hXk⟩ : ∃ z, txK en t k = z := ⟨_, rfl⟩
        rw [hXk] at hP hbld hlen
        obtain ⟨x0, x1, x2, x3⟩ := H4.out.2.1.below HB.out.2 H4.out.2.2.1
        have HP := Lib.hid (And.intro hP (And.intro hbld (And.intro hwr (And.intro hbs hvr))))
        clear hP hXk hbld hwr hbs hvr
        by_cases hd0 : d = []
        · have hdi : d.isEmpty = true := by rw [hd0]; rfl
          have HQ := Lib.hid (show (if d = [] then [] else Pl.dataL d ++ [10]) = ([] : List UInt8) from if_pos hd0)
          have HP2 := Lib.hid (And.intro HP.out.2.1 (And.intro HB.out.2 (And.intro HP.out.2.2.2.1 HP.out.2.2.2.2)))
          by_cases hr0 : ro = 0
          · have hri : (ro != 0) = false := by simp [hr0]
            have HR := Lib.hid (show (if ro = 0 then [] else Pl.roomL (ro - (p : Int)) ++ [10]) = ([] : List UInt8) from if_pos hr0)
            clear hr0
            go_wp2_with fail
            refine (bld_string b b Xk wr HP2.out.1 HP2.out.2.2.1).mono ?_
            rintro e wz ⟨rfl, -, hbz, -⟩
            have HZ := Lib.hid hbz
            clear hbz
            go_wp2_with fail
            have hfin : R = Xk := by rw [HP.out.1, HQ.out, HR.out]; simp
            go_ret
            refine ⟨_, rfl, ?_, H4.out.2.2.2.2.1.trans ((HP2.out.2.1.trans HZ.out).mono H4.out.2.2.2.1)⟩
            show Value.string _ = Value.string ⟨R.toArray⟩
            rw [hfin]
            try simp
          · have hri : (ro != 0) = true := by simp [hr0]
            have hpr : (p : Int) ≤ ro := l5 (by omega)
            have hsb : IntKind.i64.wrap (ro - (p : Int)) = ro - (p : Int) := IntWalk.i64_in _ (by omega)
            go_wp2_with fail
            refine (Tryz.strconv_Itoa (ro - (p : Int)) (by omega) (by omega) _ HP2.out.2.2.2.num.tab).mono ?_
            rintro e wi ⟨rfl, kk, os, hwi⟩
            have hbi : Below (wr).heap.size wr wi := by rw [hwi]; exact below_grow _ kk os
            have hil := (Pl.itoa_len (v := ro - (p : Int)) ⟨by omega, by omega⟩).2
            have hrr : (if ro = 0 then [] else Pl.roomL (ro - (p : Int)) ++ [10]) = (114 :: 111 :: 111 :: 109 :: 32 :: 114 :: 111 :: 111 :: 109 :: 32 :: (Lib.itoa (ro - (p : Int)) ++ [10])) := by rw [if_neg hr0]; simp [Pl.roomL, Pl.wRoom]
            obtain ⟨It, hIt⟩ : ∃ z, Lib.itoa (ro - (p : Int)) = z := ⟨_, rfl⟩
            rw [hIt] at hil hrr ⊢
            have HR := Lib.hid hrr
            have HBI := Lib.hid hbi
            clear hIt hrr hbi hwi
            go_wp2_with fail
            refine (bld_writeString b b (Xk) (114 :: 111 :: 111 :: 109 :: 32 :: 114 :: 111 :: 111 :: 109 :: 32 :: (It ++ [10])) wi (HP2.out.1.below HBI.out) (by simp; omega) (Nat.le_trans HP2.out.2.2.1 HBI.out.size)).mono ?_
            rintro e wj ⟨rfl, hbld3, hbj, -⟩
            have HJ := Lib.hid (And.intro hbld3 ((HBI.out.mono HP2.out.2.2.1).trans hbj))
            clear hbld3 hbj
            go_wp2_with fail
            refine (bld_string b b _ wj HJ.out.1 (Nat.le_trans HP2.out.2.2.1 HJ.out.2.size)).mono ?_
            rintro e wz ⟨rfl, -, hbz, -⟩
            have HZ := Lib.hid (HJ.out.2.trans hbz)
            clear hbz
            go_wp2_with fail
            have hfin : R = Xk ++ (114 :: 111 :: 111 :: 109 :: 32 :: 114 :: 111 :: 111 :: 109 :: 32 :: (It ++ [10])) := by rw [HP.out.1, HQ.out, HR.out]; simp
            go_ret
            refine ⟨_, rfl, ?_, H4.out.2.2.2.2.1.trans ((HP2.out.2.1.trans HZ.out).mono H4.out.2.2.2.1)⟩
            show Value.string _ = Value.string ⟨R.toArray⟩
            rw [hfin]
            try simp
        · have hdi : d.isEmpty = false := by cases d with
            | nil => exact absurd rfl hd0
            | cons a r => rfl
          go_wp2_with fail
          refine (quoted_any d (by omega) _).mono ?_
          rintro e wa ⟨v, rfl, rfl, hba⟩
          have hql : (Pl.quoT d).length ≤ 32010 := by have := (Pl.quoB_ok d).2; simp [Pl.quoT]; omega
          have hqd : (if d = [] then [] else Pl.dataL d ++ [10]) = (116 :: 101 :: 120 :: 116 :: 32 :: 100 :: 97 :: 116 :: 97 :: 32 :: (Pl.quoT d ++ [10])) := by rw [if_neg hd0]; simp [Pl.dataL, Pl.wText, Pl.wData]
          obtain ⟨Qt, hQt⟩ : ∃ z, Pl.quoT d = z := ⟨_, rfl⟩
          rw [hQt] at hql hqd ⊢
          have HQ := Lib.hid hqd
          have HBA := Lib.hid hba
          clear hQt hqd hba
          go_wp2_with fail
          refine (bld_writeString b b Xk (116 :: 101 :: 120 :: 116 :: 32 :: 100 :: 97 :: 116 :: 97 :: 32 :: (Qt ++ [10])) wa (HP.out.2.1.below HBA.out) (by simp; omega) (Nat.le_trans HP.out.2.2.2.1 HBA.out.size)).mono ?_
          rintro e wb ⟨rfl, hbld2, hbb, -⟩
          have hbb2 : Below b wr wb := (HBA.out.mono HP.out.2.2.2.1).trans hbb
          obtain ⟨y0, y1, y2, y3⟩ := H4.out.2.1.below (HB.out.2.trans hbb2) H4.out.2.2.1
          have hvb : VLaw wb := HX.out.2.2.2.2.below (H4.out.2.2.2.2.1.trans ((HB.out.2.trans hbb2).mono H4.out.2.2.2.1))
          have HP2 := Lib.hid (And.intro hbld2 (And.intro (HB.out.2.trans hbb2) (And.intro (Nat.le_trans HP.out.2.2.2.1 hbb2.size) hvb)))
          clear hbld2 hbb hbb2 hvb x0 x1 x2 x3
          by_cases hr0 : ro = 0
          · have hri : (ro != 0) = false := by simp [hr0]
            have HR := Lib.hid (show (if ro = 0 then [] else Pl.roomL (ro - (p : Int)) ++ [10]) = ([] : List UInt8) from if_pos hr0)
            clear hr0
            go_wp2_with fail
            refine (bld_string b b (Xk ++ (116 :: 101 :: 120 :: 116 :: 32 :: 100 :: 97 :: 116 :: 97 :: 32 :: (Qt ++ [10]))) wb HP2.out.1 HP2.out.2.2.1).mono ?_
            rintro e wz ⟨rfl, -, hbz, -⟩
            have HZ := Lib.hid hbz
            clear hbz
            go_wp2_with fail
            have hfin : R = (Xk ++ (116 :: 101 :: 120 :: 116 :: 32 :: 100 :: 97 :: 116 :: 97 :: 32 :: (Qt ++ [10]))) := by rw [HP.out.1, HQ.out, HR.out]; simp
            go_ret
            refine ⟨_, rfl, ?_, H4.out.2.2.2.2.1.trans ((HP2.out.2.1.trans HZ.out).mono H4.out.2.2.2.1)⟩
            show Value.string _ = Value.string ⟨R.toArray⟩
            rw [hfin]
            try simp
          · have hri : (ro != 0) = true := by simp [hr0]
            have hpr : (p : Int) ≤ ro := l5 (by omega)
            have hsb : IntKind.i64.wrap (ro - (p : Int)) = ro - (p : Int) := IntWalk.i64_in _ (by omega)
            go_wp2_with fail
            refine (Tryz.strconv_Itoa (ro - (p : Int)) (by omega) (by omega) _ HP2.out.2.2.2.num.tab).mono ?_
            rintro e wi ⟨rfl, kk, os, hwi⟩
            have hbi : Below (wb).heap.size wb wi := by rw [hwi]; exact below_grow _ kk os
            have hil := (Pl.itoa_len (v := ro - (p : Int)) ⟨by omega, by omega⟩).2
            have hrr : (if ro = 0 then [] else Pl.roomL (ro - (p : Int)) ++ [10]) = (114 :: 111 :: 111 :: 109 :: 32 :: 114 :: 111 :: 111 :: 109 :: 32 :: (Lib.itoa (ro - (p : Int)) ++ [10])) := by rw [if_neg hr0]; simp [Pl.roomL, Pl.wRoom]
            obtain ⟨It, hIt⟩ : ∃ z, Lib.itoa (ro - (p : Int)) = z := ⟨_, rfl⟩
            rw [hIt] at hil hrr ⊢
            have HR := Lib.hid hrr
            have HBI := Lib.hid hbi
            clear hIt hrr hbi hwi
            go_wp2_with fail
            refine (bld_writeString b b ((Xk ++ (116 :: 101 :: 120 :: 116 :: 32 :: 100 :: 97 :: 116 :: 97 :: 32 :: (Qt ++ [10])))) (114 :: 111 :: 111 :: 109 :: 32 :: 114 :: 111 :: 111 :: 109 :: 32 :: (It ++ [10])) wi (HP2.out.1.below HBI.out) (by simp; omega) (Nat.le_trans HP2.out.2.2.1 HBI.out.size)).mono ?_
            rintro e wj ⟨rfl, hbld3, hbj, -⟩
            have HJ := Lib.hid (And.intro hbld3 ((HBI.out.mono HP2.out.2.2.1).trans hbj))
            clear hbld3 hbj
            go_wp2_with fail
            refine (bld_string b b _ wj HJ.out.1 (Nat.le_trans HP2.out.2.2.1 HJ.out.2.size)).mono ?_
            rintro e wz ⟨rfl, -, hbz, -⟩
            have HZ := Lib.hid (HJ.out.2.trans hbz)
            clear hbz
            go_wp2_with fail
            have hfin : R = (Xk ++ (116 :: 101 :: 120 :: 116 :: 32 :: 100 :: 97 :: 116 :: 97 :: 32 :: (Qt ++ [10]))) ++ (114 :: 111 :: 111 :: 109 :: 32 :: 114 :: 111 :: 111 :: 109 :: 32 :: (It ++ [10])) := by rw [HP.out.1, HQ.out, HR.out]; simp
            go_ret
            refine ⟨_, rfl, ?_, H4.out.2.2.2.2.1.trans ((HP2.out.2.1.trans HZ.out).mono H4.out.2.2.2.1)⟩
            show Value.string _ = Value.string ⟨R.toArray⟩
            rw [hfin]
            try simp
end Go.Proofs.YtmmnkoeajdeldaaGreatDoor
namespace Go.Proofs.YtmmnkoeajdeldaaGreatDoor
open Go.ChangeShapes Go.WideShapes Go.ChangeAt Go.RowKit Go.Deep Go.Joins

section
variable {H : Type} {enc : TypeId × Value → H} {W : World} {base : Nat} {sp : Nat → Bool} {held : Bool}

def XWord (cs : List Value) : Prop := ∃ n : Nat, cs = [.int .u32 (n : Int)] ∧ n < 4294967296
theorem xword_bd {n : Int} (h : (Lit.int .u32 n).wf = true) : 0 ≤ n ∧ n < 4294967296 := by
  obtain ⟨h1, h2⟩ := wf_bd h
  have e1 : IntKind.u32.min = 0 := by decide
  have e2 : IntKind.u32.max = 4294967295 := by decide
  omega
set_option maxRecDepth 100000 in
theorem read_xword (fuel : Nat) (cs : List Value) (x : DataW H × List MemPlace) (h : DataW.trod enc Tryz.prog W base sp held fuel 24 cs = some x) (_hz : ∀ m ∈ x.1.weights Tryz.prog 24, m ≤ reachBytes) : XWord cs := by
  obtain ⟨n, rfl, rfl, hw⟩ := DataW.trod_int Tryz.underlying24 h
  obtain ⟨h1, h2⟩ := xword_bd hw
  obtain ⟨m, rfl⟩ := Int.eq_ofNat_of_zero_le h1
  exact ⟨m, rfl, by omega⟩

set_option maxRecDepth 100000 in
theorem open_xe {v : Value} {d : DataW H} {p : List MemPlace} {r : Reach} {b0 : Nat} (hv : Value.okWide Tryz.prog W r b0 26 v) (h : DataW.Trod enc Tryz.prog W base sp held 26 v d p)
    (hz : ∀ m ∈ d.weights Tryz.prog 26, m ≤ reachBytes) :
    ∃ (A : Option Addr) (c : Nat) (x : Pl.Exe), v = xeV A c x ∧ Rd W 1 A x.text.length (w32s x.text) ∧ XeOk x := by
  obtain ⟨v0, v1, v2, v3, y0, y1, y2, y3, n, rfl, rfl, -, h0, h1, h2, h3⟩ := open_agg4 Tryz.underlying26 (by kernel_rfl) (by kernel_rfl) hv h
  simp only at h0 h1 h2 h3
  have hz' : (∀ m ∈ y0.1.weights Tryz.prog 23, m ≤ reachBytes) ∧ (∀ m ∈ y1.1.weights Tryz.prog 9, m ≤ reachBytes) := by
    simp only [DataW.weights, Tryz.underlying26] at hz
    refine ⟨fun m hm => hz m ?_, fun m hm => hz m ?_⟩
    · exact DataW.weights_mem_each (j := 0) rfl rfl m hm
    · exact DataW.weights_mem_each (j := 1) rfl rfl m hm
  obtain ⟨A, len, c, L, hcs, hl, hk, hr, hc, hc', hb, -, hL⟩ := open_elems Tryz.underlying23 (k := 1) (by kernel_rfl) (by omega) XWord read_xword h0 hz'.1
  obtain ⟨Y, rfl, hY⟩ := list_choose (fun q : Nat => [Value.int .u32 (q : Int)]) (fun q => q < 4294967296) L hL
  have e := flatten_one (fun q : Nat => Value.int .u32 (q : Int)) Y
  rw [e] at hr
  rw [List.length_map] at hl
  simp only [List.cons.injEq, and_true] at hcs
  obtain ⟨l, hs, hsl⟩ := read_str n [v1] y1 h1 hz'.2
  simp only [List.cons.injEq, and_true] at hs
  obtain ⟨room, hr2, -, hw2⟩ := DataW.trod_int Tryz.underlying3 h2
  obtain ⟨en, hr3, -, hw3⟩ := DataW.trod_int Tryz.underlying24 h3
  simp only [List.cons.injEq, and_true] at hr2 hr3
  obtain ⟨g1, g2⟩ := xword_bd hw3
  obtain ⟨q, rfl⟩ := Int.eq_ofNat_of_zero_le g1
  obtain ⟨g3, g4⟩ := wf_bd hw2
  have e1 : IntKind.i64.min = -9223372036854775808 := by decide
  have e2 : IntKind.i64.max = 9223372036854775807 := by decide
  have hb' : Tryz.prog.bytesOf 24 = 4 := by kernel_rfl
  rw [hb'] at hb
  have hR := reach_le
  subst hcs hs hr2 hr3 hl
  exact ⟨A, c, ⟨Y, l, room, q⟩, rfl, hr, ⟨by simp only; omega, by simp only; omega, by simp only; omega, by simp only; omega, by simp only; omega, hY⟩⟩
end
end Go.Proofs.YtmmnkoeajdeldaaGreatDoor
