/- asm.quoted. No condition beside the size. -/
import Derived.Test.YtmmnkoeajdeldaaGreatDoorAsT5
import Derived.Test.YtmmnkoeajdeldaaGreatDoorAsTx
namespace Go.Proofs.YtmmnkoeajdeldaaGreatDoor
open Go.RowKit
set_option linter.unusedVariables false
set_option linter.unusedSimpArgs false
attribute [local go_sem] ba_get ba_cut ba_add
theorem own_lit1 (w : World) (base : Nat) (xs : List Value) (e : TypeId) (n : Nat) (hn : xs.length = n) (hb : base ≤ w.heap.size) (hm : n ≤ maxLen) : (w.alloc (.cells xs.toArray e)).ownsRow base e 1 (.slice (some ⟨w.heap.size, 0, none⟩) n n) n xs :=
  ⟨by omega, .inr ⟨w.heap.size, n, xs.toArray, rfl, hb, heap_alloc_new w _, Nat.le_refl _, hm, by simp [hn], by rw [Nat.mul_one]; simp [← hn]⟩⟩
/-- append of a literal row to a row of bytes of the call's own. -/
theorem push_row {P : Program} {ops : Array Oper} {rest : List Oper} {o : Oper} {a : Act} {Q : Exit → Act → World → Prop} (hgd : o.guard = none) (s x : Operand) (t : TypeId)
    (ho : o.op = .call { callee := .builtin .append, args := #[s, x], argTypes := #[t, t] })
    (base : Nat) (e : TypeId) (z : Value) (bytes : Nat) (ht : P.underlying t = some (.slice e)) (hi : (P.info? e).map (fun i => (i.zero, i.size, i.bytes)) = some (some z, 1, bytes)) (hzs : z.cells.size = 1)
    (w : World) (v : Value) (n : Nat) (xs : List Value) (m : Nat) (ys : List Value) (hm : ys.length = m) (hs : a.eval s = v) (hown : w.ownsRow base e 1 v n xs) (hx : a.eval x = .slice (some ⟨w.heap.size, 0, none⟩) m m) (h1 : ∀ u ∈ ys, u.oneCell' = true)
    (hbytes : (n + m) * bytes ≤ 140737488355328) (hb0 : 1 ≤ bytes) (hbase : base ≤ w.heap.size)
    (h : ∀ v' w', w'.ownsRow base e 1 v' (n + m) (xs ++ ys) → Below base w w' → wpList P ops Q rest (a.put o.dst v') w') : wpList P ops Q (o :: rest) a (w.alloc (.cells ys.toArray e)) := by
  have hr := Rd.new w ys e
  rw [hm] at hr
  refine push_many hgd s x t ho base e z 1 bytes ht hi hzs (by decide) _ v n xs (some ⟨w.heap.size, 0, none⟩) m m ys hs (hown.alloc _) hx hr (fun e => by cases e) h1 hbytes hb0 (by simp; omega) fun v' w' h2 h3 => ?_
  exact h v' w' h2 (((Below.refl _ _).alloc hbase _).trans h3)
theorem quoB_snoc (s : List UInt8) (k : Nat) (h : k < s.length) : Pl.quoB (s.take (k + 1)) = Pl.quoB (s.take k) ++ Pl.qB s[k] := by
  unfold Pl.quoB
  rw [List.take_succ_eq_append_getElem h, List.flatMap_append]
  congr 1
  simp [List.flatMap]
theorem hex_at (q : Nat) (v : Int) (hv : v = (q : Int)) (h : q < 16) (W : World) : (Instr.index 9 (.string ⟨#[48, 49, 50, 51, 52, 53, 54, 55, 56, 57, 97, 98, 99, 100, 101, 102]⟩) (.int .u8 v)).run Tryz.prog W = .ok (.int .u8 ((Pl.hexC q).toNat : Int)) W := by
  subst hv
  obtain ⟨L, hL⟩ : ∃ L : List UInt8, [48, 49, 50, 51, 52, 53, 54, 55, 56, 57, 97, 98, 99, 100, 101, 102] = L := ⟨_, rfl⟩
  have hl : L.length = 16 := by rw [← hL]; rfl
  have hc : Pl.hexC q = L[q] := by
    unfold Pl.hexC
    rw [hL, List.getD_eq_getElem?_getD, List.getElem?_eq_getElem (by omega)]
    rfl
  show (Instr.index 9 (.string ⟨[48, 49, 50, 51, 52, 53, 54, 55, 56, 57, 97, 98, 99, 100, 101, 102].toArray⟩) (.int .u8 (q : Int))).run Tryz.prog W = _
  rw [hL, hc]
  have hq : q < L.length := by omega
  simp [go_sem, hq]
theorem and15_all : ((List.range 256).all fun x => bits BinOp.and .u8 (x : Int) 15 == ((x % 16 : Nat) : Int)) = true := by kernel_rfl
theorem own_conv34 {w : World} {base : Nat} {v : Value} {bl : List UInt8} (h : w.ownsRow base 5 1 v (bl.length + 1) (u8C bl ++ [.int .u8 34])) : (convert 59 9 v).run Tryz.prog w = .ok (.string ⟨(bl ++ [34]).toArray⟩) w := own_conv (bl := bl ++ [34]) (by rw [List.length_append]; simpa [u8C] using h)
set_option maxRecDepth 100000 in
set_option maxHeartbeats 2000000 in
theorem quoted_any (s : List UInt8) (hs : s.length ≤ 100000) (w : World) : Calls Tryz.prog 44 #[.string ⟨s.toArray⟩] w (RetB (fun v _ => v = .string ⟨(Pl.quoT s).toArray⟩) w) := by
  go_enter Tryz.func44, Tryz.ntmps44
  go_wp2_with fail
  go_loopw [3, 9] (fun v i wr => ∃ (k : Nat) (bl : List UInt8), k ≤ s.length ∧ i = .int .i64 (k : Int) ∧ bl.length ≤ 1 + 4 * k ∧ wr.ownsRow w.heap.size 5 1 v bl.length (u8C bl) ∧ Below w.heap.size w wr ∧ Hid (bl = 34 :: Pl.quoB (s.take k))) (fun _ i _ => s.length - (intOf i).toNat)
  case atStart => exact ⟨0, [34], by omega, rfl, by simp, own_lit1 w w.heap.size [.int .u8 34] 5 1 rfl (Nat.le_refl _) (by decide), (Below.refl _ _).alloc (Nat.le_refl _) _, Lib.hid (by simp [Pl.quoB])⟩
  case round =>
    obtain ⟨k, bl, hk, rfl, hbl, hown, hbw, HB⟩ := hrel
    obtain ⟨vA, vc, rfl⟩ := own_form' hown
    by_cases hkn : k < s.length
    · have hqs := quoB_snoc s k hkn
      obtain ⟨c, hc⟩ : ∃ c, s[k] = c := ⟨_, rfl⟩
      have hix : ∀ W', (Instr.index 9 (.string ⟨s.toArray⟩) (.int .i64 (k : Int))).run Tryz.prog W' = .ok (.int .u8 (c.toNat : Int)) W' := by
        intro W'
        rw [← hc]
        simp [go_sem, hkn]
      have hcl := c.toNat_lt
      rw [hc] at hqs
      obtain ⟨x, hx⟩ : ∃ x, c.toNat = x := ⟨_, rfl⟩
      rw [hx] at hix hcl
      have hhi := hbw.size
      have HC := Lib.hid (And.intro hqs (And.intro hx (And.intro hown (And.intro hbw hhi))))
      clear hqs hc hown hbw hhi hx
      by_cases h1 : x = 34 ∨ x = 92
      · have hq : Pl.qB c = [92, c] := by unfold Pl.qB; rw [HC.out.2.1, if_pos h1]
        have HQ := Lib.hid hq
        clear hq
        rcases h1 with rfl | rfl
        · go_wp2_with (at_builtin; refine push_row rfl (.tmp 31) (.tmp 33) 59 rfl w.heap.size 5 (.int .u8 0) 1 Tryz.underlying59 info_u8b rfl wr _ _ _ 2 [.int .u8 92, .int .u8 34] rfl rfl HC.out.2.2.1 rfl (by decide) (by omega) (by omega) HC.out.2.2.2.2 ?_; intro v1 w3 hown1 hb1; have HO := Lib.hid (And.intro hown1 hb1); clear hown1 hb1)
          refine ⟨⟨k + 1, bl ++ [92, c], by omega, ret_i (by omega), by simp; omega, ?_, HC.out.2.2.2.1.trans HO.out.2, Lib.hid ?_⟩, by simp only [intOf]; omega⟩
          · have h := HO.out.1
            rw [List.length_append]
            simpa [u8C, HC.out.2.1] using h
          · rw [HB.out, HC.out.1, HQ.out]
            rfl
        · go_wp2_with (at_builtin; refine push_row rfl (.tmp 31) (.tmp 33) 59 rfl w.heap.size 5 (.int .u8 0) 1 Tryz.underlying59 info_u8b rfl wr _ _ _ 2 [.int .u8 92, .int .u8 92] rfl rfl HC.out.2.2.1 rfl (by decide) (by omega) (by omega) HC.out.2.2.2.2 ?_; intro v1 w3 hown1 hb1; have HO := Lib.hid (And.intro hown1 hb1); clear hown1 hb1)
          refine ⟨⟨k + 1, bl ++ [92, c], by omega, ret_i (by omega), by simp; omega, ?_, HC.out.2.2.2.1.trans HO.out.2, Lib.hid ?_⟩, by simp only [intOf]; omega⟩
          · have h := HO.out.1
            rw [List.length_append]
            simpa [u8C, HC.out.2.1] using h
          · rw [HB.out, HC.out.1, HQ.out]
            rfl
      have e34 : ((x : Int) == 34) = false := by rw [beq_eq_false_iff_ne]; omega
      have e92 : ((x : Int) == 92) = false := by rw [beq_eq_false_iff_ne]; omega
      by_cases h2 : x = 10
      · have hq : Pl.qB c = [92, 110] := by unfold Pl.qB; rw [HC.out.2.1, if_neg h1, if_pos h2]
        have HQ := Lib.hid hq
        clear hq
        subst h2
        go_wp2_with (at_builtin; refine push_row rfl (.tmp 38) (.tmp 39) 59 rfl w.heap.size 5 (.int .u8 0) 1 Tryz.underlying59 info_u8b rfl wr _ _ _ 2 [.int .u8 92, .int .u8 110] rfl rfl HC.out.2.2.1 rfl (by decide) (by omega) (by omega) HC.out.2.2.2.2 ?_; intro v1 w3 hown1 hb1; have HO := Lib.hid (And.intro hown1 hb1); clear hown1 hb1)
        refine ⟨⟨k + 1, bl ++ [92, 110], by omega, ret_i (by omega), by simp; omega, ?_, HC.out.2.2.2.1.trans HO.out.2, Lib.hid ?_⟩, by simp only [intOf]; omega⟩
        · have h := HO.out.1
          rw [List.length_append]
          simpa [u8C] using h
        · rw [HB.out, HC.out.1, HQ.out]
          rfl
      have e10 : ((x : Int) == 10) = false := by rw [beq_eq_false_iff_ne]; omega
      by_cases h3 : 32 ≤ x ∧ x ≤ 126
      · have hq : Pl.qB c = [c] := by unfold Pl.qB; rw [HC.out.2.1, if_neg h1, if_neg h2, if_pos h3]
        have HQ := Lib.hid hq
        obtain ⟨g1, g2⟩ := h3
        clear hq h1 h2
        go_wp2_with (at_builtin; refine push_row rfl (.tmp 48) (.tmp 50) 59 rfl w.heap.size 5 (.int .u8 0) 1 Tryz.underlying59 info_u8b rfl wr _ _ _ 1 [.int .u8 (x : Int)] rfl rfl HC.out.2.2.1 rfl (by intro u hu; simp at hu; subst hu; rfl) (by omega) (by omega) HC.out.2.2.2.2 ?_; intro v1 w3 hown1 hb1; have HO := Lib.hid (And.intro hown1 hb1); clear hown1 hb1)
        refine ⟨⟨k + 1, bl ++ [c], by omega, ret_i (by omega), by simp; omega, ?_, HC.out.2.2.2.1.trans HO.out.2, Lib.hid ?_⟩, by simp only [intOf]; omega⟩
        · have h := HO.out.1
          rw [List.length_append]
          simpa [u8C, HC.out.2.1] using h
        · rw [HB.out, HC.out.1, HQ.out]
          rfl
      have hq : Pl.qB c = [92, 120, Pl.hexC (x / 16), Pl.hexC (x % 16)] := by unfold Pl.qB; rw [HC.out.2.1, if_neg h1, if_neg h2, if_neg h3]
      have HQ := Lib.hid hq
      clear hq
      go_upto_region 6 with (fail)
      all_goals try (exfalso; omega)
      all_goals
        refine wp_region_held_drew (S := (fun _ => True)) (by kernel_rfl) trivial (fun hHeld => ?_)
        have hix1 : ∀ W', (Instr.index 9 (.string ⟨#[48, 49, 50, 51, 52, 53, 54, 55, 56, 57, 97, 98, 99, 100, 101, 102]⟩) (.int .u8 ((x : Int) / 16))).run Tryz.prog W' = .ok (.int .u8 ((Pl.hexC (x / 16)).toNat : Int)) W' := fun W' => hex_at _ _ (by omega) (by omega) W'
        have hix2 : ∀ W', (Instr.index 9 (.string ⟨#[48, 49, 50, 51, 52, 53, 54, 55, 56, 57, 97, 98, 99, 100, 101, 102]⟩) (.int .u8 ((x % 16 : Nat) : Int))).run Tryz.prog W' = .ok (.int .u8 ((Pl.hexC (x % 16)).toNat : Int)) W' := fun W' => hex_at _ _ rfl (by omega) W'
        have hand := List.all_eq_true.1 and15_all x (List.mem_range.2 (by omega))
        simp only [beq_iff_eq] at hand
        obtain ⟨ca, hca⟩ : ∃ z, Pl.hexC (x / 16) = z := ⟨_, rfl⟩
        obtain ⟨cb, hcb⟩ : ∃ z, Pl.hexC (x % 16) = z := ⟨_, rfl⟩
        rw [hca] at hix1
        rw [hcb] at hix2
        obtain ⟨q16, hq16⟩ : ∃ z, x % 16 = z := ⟨_, rfl⟩
        rw [hq16] at hix2 hand hcb
        have HE := Lib.hid (And.intro hca hcb)
        clear hca hcb
        refine wpAnyH_take (i := 0) (v := ?_) rfl (by kernel_rfl) (by kernel_rfl) (by kernel_rfl) (fun _ _ _ h => h) (Or.inl ⟨by kernel_rfl, ?_⟩) hHeld ?_
        rotate_left
        · (intro w' hSw; (try dsimp only at hSw); go_simp; try with_reducible rfl)
        simp only [Act.put, List.setIfInBounds_toArray, List.set_cons_zero, List.set_cons_succ, List.getElem_toArray, List.getElem_cons_succ, List.getElem_cons_zero]
        refine wpAnyH_take (i := 1) (v := ?_) rfl (by kernel_rfl) (by kernel_rfl) (by kernel_rfl) (fun _ _ _ h => h) (Or.inl ⟨by kernel_rfl, ?_⟩) hHeld ?_
        rotate_left
        · (intro w' hSw; (try dsimp only at hSw); go_simp; try with_reducible rfl)
        simp only [Act.put, List.setIfInBounds_toArray, List.set_cons_zero, List.set_cons_succ, List.getElem_toArray, List.getElem_cons_succ, List.getElem_cons_zero]
        refine wpAnyH_take (i := 2) (v := ?_) rfl (by kernel_rfl) (by kernel_rfl) (by kernel_rfl) (fun _ _ _ h => h) (Or.inl ⟨by kernel_rfl, ?_⟩) hHeld ?_
        rotate_left
        · (intro w' hSw; (try dsimp only at hSw); go_simp; try with_reducible rfl)
        simp only [Act.put, List.setIfInBounds_toArray, List.set_cons_zero, List.set_cons_succ, List.getElem_toArray, List.getElem_cons_succ, List.getElem_cons_zero]
        refine wpAnyH_take (i := 3) (v := ?_) rfl (by kernel_rfl) (by kernel_rfl) (by kernel_rfl) (fun _ _ _ h => h) (Or.inl ⟨by kernel_rfl, ?_⟩) hHeld ?_
        rotate_left
        · (intro w' hSw; (try dsimp only at hSw); go_simp; try with_reducible rfl)
        simp only [Act.put, List.setIfInBounds_toArray, List.set_cons_zero, List.set_cons_succ, List.getElem_toArray, List.getElem_cons_succ, List.getElem_cons_zero]
        refine wpAnyH_take (i := 4) (v := ?_) rfl (by kernel_rfl) (by kernel_rfl) (by kernel_rfl) (fun _ _ _ h => h) (Or.inl ⟨by kernel_rfl, ?_⟩) hHeld ?_
        rotate_left
        · (intro w' hSw; (try dsimp only at hSw); go_simp; try with_reducible rfl)
        simp only [Act.put, List.setIfInBounds_toArray, List.set_cons_zero, List.set_cons_succ, List.getElem_toArray, List.getElem_cons_succ, List.getElem_cons_zero]
        refine wpAnyH_take (i := 5) (v := ?_) rfl (by kernel_rfl) (by kernel_rfl) (by kernel_rfl) (fun _ _ _ h => h) (Or.inl ⟨by kernel_rfl, ?_⟩) hHeld ?_
        rotate_left
        · (intro w' hSw; (try dsimp only at hSw); go_simp; try with_reducible rfl)
        simp only [Act.put, List.setIfInBounds_toArray, List.set_cons_zero, List.set_cons_succ, List.getElem_toArray, List.getElem_cons_succ, List.getElem_cons_zero]
        refine wpAnyH_take (i := 6) (v := ?_) rfl (by kernel_rfl) (by kernel_rfl) (by kernel_rfl) (fun _ _ _ h => h) (Or.inl ⟨by kernel_rfl, ?_⟩) hHeld ?_
        rotate_left
        · (intro w' hSw; (try dsimp only at hSw); go_simp; try with_reducible rfl)
        simp only [Act.put, List.setIfInBounds_toArray, List.set_cons_zero, List.set_cons_succ, List.getElem_toArray, List.getElem_cons_succ, List.getElem_cons_zero]
        refine wpAnyH_ready (rs := [7]) (by kernel_rfl) (by simp) (AllReadyH.cons rfl (fun K hK => ?_) AllReadyH.nil)
        go_simp
        refine hK.out _ _ trivial (fun hHeld => ?_)
        clear hK K
        (try simp only [Act.put, List.setIfInBounds_toArray, List.set_cons_zero, List.set_cons_succ, List.getElem_toArray, List.getElem_cons_succ, List.getElem_cons_zero])
        refine wpAnyH_ready (rs := [8]) (by kernel_rfl) (by simp) (AllReadyH.cons rfl (fun K hK => ?_) AllReadyH.nil)
        refine step_push_a rfl (.tmp 15) (.tmp 22) 59 rfl w.heap.size 5 (.int .u8 0) 1 1 Tryz.underlying59 info_u8b rfl (by decide) _ _ _ _ (some ⟨wr.heap.size, 0, none⟩) 4 4 [.int .u8 92, .int .u8 120, .int .u8 (ca.toNat : Int), .int .u8 (cb.toNat : Int)] rfl ((HC.out.2.2.1.alloc _).drew) rfl (Rd.new wr _ _).drew (fun e => by cases e) (by intro u hu; simp at hu; rcases hu with rfl | rfl | rfl | rfl <;> rfl) (by omega) (by decide) (by simp; exact Nat.le_succ_of_le HC.out.2.2.2.2) ?_
        intro v' W4 hown4 hb4 hblk
        refine hK.out _ _ trivial (fun hHeld => ?_)
        clear hK K
        (try simp only [Act.put, List.setIfInBounds_toArray, List.set_cons_zero, List.set_cons_succ, List.getElem_toArray, List.getElem_cons_succ, List.getElem_cons_zero])
        refine wpAnyH_take (i := 9) (v := ?_) rfl (by kernel_rfl) (by kernel_rfl) (by kernel_rfl) (fun _ _ _ h => h) (Or.inl ⟨by kernel_rfl, ?_⟩) hHeld ?_
        rotate_left
        · (intro w' hSw; (try dsimp only at hSw); go_simp; try with_reducible rfl)
        simp only [Act.put, List.setIfInBounds_toArray, List.set_cons_zero, List.set_cons_succ, List.getElem_toArray, List.getElem_cons_succ, List.getElem_cons_zero]
        refine wpAnyH_done (by kernel_rfl) ?_ _
        go_wp2_with fail
        have hb1 : Below w.heap.size wr ((wr.alloc (.cells #[.int .u8 92, .int .u8 120, .int .u8 (ca.toNat : Int), .int .u8 (cb.toNat : Int)] 5)).drew) := ((Below.refl _ _).alloc HC.out.2.2.2.2 _).drew
        refine ⟨⟨k + 1, bl ++ [92, 120, ca, cb], by omega, ret_i (by omega), by simp; omega, ?_, HC.out.2.2.2.1.trans (hb1.trans hb4), Lib.hid ?_⟩, by simp only [intOf]; omega⟩
        · rw [List.length_append]
          simpa [u8C] using hown4
        · rw [HB.out, HC.out.1, HQ.out, hq16, HE.out.1, HE.out.2]
          rfl
    · have hbe : bl = 34 :: Pl.quoB s := by rw [HB.out, List.take_of_length_le (by omega)]
      have hhi := hbw.size
      have HC := Lib.hid (And.intro hown (And.intro hbw (And.intro hhi hbe)))
      clear hown hbw hhi hbe HB
      go_wp2_with (at_builtin; refine push_row rfl (.tmp 53) (.tmp 54) 59 rfl w.heap.size 5 (.int .u8 0) 1 Tryz.underlying59 info_u8b rfl wr _ _ _ 1 [.int .u8 34] rfl rfl HC.out.1 rfl (by decide) (by omega) (by omega) HC.out.2.2.1 ?_; intro v1 w3 hown1 hb1; have hcv := own_conv34 hown1; have HO := Lib.hid hb1; clear hown1 hb1)
      go_ret
      refine ⟨_, rfl, ?_, HC.out.2.1.trans HO.out⟩
      rw [HC.out.2.2.2]
      rfl
end Go.Proofs.YtmmnkoeajdeldaaGreatDoor
