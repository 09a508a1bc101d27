/- The assembler's token. The condition: where strconv's error of range lies. -/
import Derived.Test.YtmmnkoeajdeldaaGreatDoorAsT5
import Derived.Test.YtmmnkoeajdeldaaGreatDoorVars
import Derived.Test.YtmmnkoeajdeldaaGreatDoorAsEq1
namespace Go.Proofs.YtmmnkoeajdeldaaGreatDoor
open Go.RowKit Go.Maps Go.WideMaps
set_option linter.unusedVariables false
set_option linter.unusedSimpArgs false
attribute [local go_sem] ba_get ba_cut ba_add fld_k fld_s fld_n
theorem tok3 {w V W1 : World} {B : Nat} (t : Pl.Tk) {x0 x1 x2 : Value} (h : V.heap[B]? = some (.cells #[x0, x1, x2] 115 (0, 0))) (hb : Below B w V)
    (hW : ((V.setCell ⟨B, 0, none⟩ (.int .i64 (t.k : Int))).setCell ⟨B, 1, none⟩ (.string ⟨t.s.toArray⟩)).setCell ⟨B, 2, none⟩ (.int .i64 t.n) = W1) : W1.heap[B]? = some (.cells (tkL t).toArray 115 (0, 0)) ∧ Below B w W1 := by
  subst hW
  refine ⟨by rw [set_at _ B 2 _ _ _ (set_at _ B 1 _ _ _ (set_at V B 0 _ _ _ h))]; rfl, ?_⟩
  exact ((hb.setCell (p := ⟨B, 0, none⟩) (Nat.le_refl _) _).setCell (p := ⟨B, 1, none⟩) (Nat.le_refl _) _).setCell (p := ⟨B, 2, none⟩) (Nat.le_refl _) _
theorem tlm (s : List UInt8) : (⟨s.toArray⟩ : ByteArray).data.toList = s := by simp
set_option maxRecDepth 100000 in
set_option maxHeartbeats 1000000 in
theorem token_any (A ln : Nat) (Z : AsV) (l : List UInt8) (a : Nat) (w : World) (H : AsB w A ln Z) (hl : l.length ≤ 1000000) (ha : a < l.length) (hv : IsErr 6 w) : Calls Tryz.prog 64 #[.pointer (some ⟨A, 0, none⟩), .string ⟨l.toArray⟩, .int .i64 (a : Int)] w (TokQ w ln (Pl.tokN (l.drop a))) := by
  obtain ⟨R, hR⟩ : ∃ R, Pl.tokN (l.drop a) = R := ⟨_, rfl⟩
  rw [hR]
  rw [List.drop_eq_getElem_cons ha] at hR
  obtain ⟨c, hc⟩ : ∃ c, l[a] = c := ⟨_, rfl⟩
  rw [hc] at hR
  simp only [Pl.tokN] at hR
  have hcd : c :: l.drop (a + 1) = l.drop a := by rw [← hc, List.drop_eq_getElem_cons ha]
  rw [hcd] at hR
  have hix : ∀ W', (Instr.index 9 (.string ⟨l.toArray⟩) (.int .i64 (a : Int))).run Tryz.prog W' = .ok (.int .u8 (c.toNat : Int)) W' := by
    intro W'
    rw [← hc]
    simp [go_sem, ha]
  have HM := Lib.hid (fun W => mark_any c W)
  have HL := Lib.hid (fun W => letter_any c W)
  obtain ⟨X, hX⟩ : ∃ X, Pl.markN c = X := ⟨_, rfl⟩
  obtain ⟨Y, hY⟩ : ∃ Y, Pl.letB c = Y := ⟨_, rfl⟩
  rw [hX, hY] at hR
  rw [hX] at HM
  rw [hY] at HL
  have hcl := c.toNat_lt
  obtain ⟨x, hx⟩ : ∃ x, c.toNat = x := ⟨_, rfl⟩
  rw [hx] at hix hR HM HL hcl
  have HH := Lib.hid H
  have HVr := Lib.hid hv
  have hAs := H.lt
  have HR := Lib.hid hR
  have HC := Lib.hid (And.intro hc (And.intro hcd (And.intro hx (And.intro hX hY))))
  clear hR H hc hcd hx hX hY hv
  have stage : ∀ (V : World) (B : Nat), w.heap.size = B → V = w.alloc (.cells #[.int .i64 0, .string ⟨#[]⟩, .int .i64 0] 115 (0, 0)) → V.heap[B]? = some (.cells #[.int .i64 0, .string ⟨#[]⟩, .int .i64 0] 115 (0, 0)) ∧ Below B w V ∧ B < V.heap.size ∧ AsB V A ln Z := fun V B hB hV => by
    have hb : Below B w V := by rw [hV, ← hB]; exact (Below.refl _ _).alloc (Nat.le_refl _) _
    have hz : V.heap[B]? = some (.cells #[.int .i64 0, .string ⟨#[]⟩, .int .i64 0] 115 (0, 0)) := by rw [hV, ← hB]; exact heap_alloc_new _ _
    exact ⟨hz, hb, blk_lt hz, HH.out.below hb (by omega)⟩
  rcases X with _ | k
  · rcases Y with _ | _
    · have hr := HR.out
      simp only [Bool.false_eq_true, if_false] at hr
      by_cases h34 : x = 34
      · subst h34
        rw [if_pos rfl] at hr
        have HQ := Lib.hid (fun V HB => quote_any A ln Z l a V HB hl ha)
        have HS : Hid (quoE l a = R) := Lib.hid hr
        clear hr
        go_enter Tryz.func64, Tryz.ntmps64
        go_upto_region 1 with (fail)
        generalize hW : w.alloc _ = V
        obtain ⟨B, hB⟩ : ∃ B, w.heap.size = B := ⟨_, rfl⟩
        have HV := Lib.hid (stage V B hB hW.symm)
        have c0 : V.cell? ⟨B, 0, none⟩ = some (.int .i64 0) := by rw [cell_row V B 0 _ _ HV.out.1]; rfl
        have c1 : V.cell? ⟨B, 1, none⟩ = some (.string ⟨#[]⟩) := by rw [cell_row V B 1 _ _ HV.out.1]; rfl
        have c2 : V.cell? ⟨B, 2, none⟩ = some (.int .i64 0) := by rw [cell_row V B 2 _ _ HV.out.1]; rfl
        have f0 := frozen_of V B 0 _ _ HV.out.1
        have f1 := frozen_of V B 1 _ _ HV.out.1
        have f2 := frozen_of V B 2 _ _ HV.out.1
        rw [hB] at hAs ⊢
        clear hW
        go_wp2_with fail
        refine (HM.out _).mono ?_
        rintro e w1 ⟨rfl, rfl⟩
        unfold markV
        go_wp2_with fail
        refine (HL.out _).mono ?_
        rintro e w1 ⟨rfl, rfl⟩
        go_wp2_with fail
        refine (HQ.out _ HV.out.2.2.2).mono ?_
        rintro e w2 ⟨hb2, h⟩
        rw [HS.out] at h
        have hbE : Below B w w2 := HV.out.2.1.trans (hb2.mono (Nat.le_of_lt HV.out.2.2.1))
        have hzE := (hb2.block B HV.out.2.2.1).trans HV.out.1
        rcases R with _ | ⟨t, n⟩
        · obtain rfl := h
          exact ⟨rfl, by rw [hB]; exact hbE, rfl⟩
        · obtain rfl := h
          rw [show tkV t = .agg #[.int .i64 (t.k : Int), .string ⟨t.s.toArray⟩, .int .i64 t.n] from rfl]
          have HE := Lib.hid (And.intro hbE hzE)
          have g0 : w2.cell? ⟨B, 0, none⟩ = some (.int .i64 0) := by rw [cell_row w2 B 0 _ _ hzE]; rfl
          have g1 : w2.cell? ⟨B, 1, none⟩ = some (.string ⟨#[]⟩) := by rw [cell_row w2 B 1 _ _ hzE]; rfl
          have g2 : w2.cell? ⟨B, 2, none⟩ = some (.int .i64 0) := by rw [cell_row w2 B 2 _ _ hzE]; rfl
          have k0 := frozen_of w2 B 0 _ _ hzE
          have k1 := frozen_of w2 B 1 _ _ hzE
          have k2 := frozen_of w2 B 2 _ _ hzE
          clear hbE hzE hb2 c0 c1 c2 f0 f1 f2
          go_wp2_with fail
          generalize hW : World.setCell (World.setCell _ _ _) _ _ = W1
          have hf := tok3 t HE.out.2 HE.out.1 hW
          refine bodyPost_ret (resultsA2 (cs := tkL t) (x := .int .i64 (n : Int)) rfl rfl (rangeA hf.1) Tryz.underlying115 rfl info_tk rfl) rfl ⟨by rw [hB]; exact hf.2, ?_⟩
          rfl
      · rw [if_neg h34] at hr
        have e34 : ((x : Int) == 34) = false := by simp; omega
        obtain ⟨sg, hsg⟩ : ∃ sg, (if x = 45 then 1 else 0) = sg := ⟨_, rfl⟩
        rw [hsg] at hr
        have hsg1 : sg ≤ 1 := by rw [← hsg]; split <;> omega
        have hasg : a + sg ≤ l.length := by omega
        have hsp := fun W => span_any 103 (fun c W => by kernel_rfl) Pl.digB (fun c W => digit_any c W) l (a + sg) ((a : Int) + (sg : Int)) (by omega) hasg hl W
        have hsl := Pl.span_le Pl.digB (l.drop (a + sg))
        rw [List.length_drop] at hsl
        rw [List.drop_drop] at hr
        have hm0 : ∀ m, Pl.spanN Pl.digB (l.drop (a + sg)) = m → m ≠ 0 → Lib.parseIntB 64 ((l.drop a).take (sg + m)) ≠ .syntax := fun m hm h0 => by
          have h := Pl.num_signs (l.drop a) c (l.drop (a + 1)) HC.out.2.1.symm sg m (by rw [HC.out.2.2.1]; exact hsg.symm) (by rw [List.drop_drop]; exact hm.symm) h0
          exact Pl.parse_num _ sg h.1 h.2.1 h.2.2
        obtain ⟨m, hm⟩ : ∃ m, Pl.spanN Pl.digB (l.drop (a + sg)) = m := ⟨_, rfl⟩
        have hpn := hm0 m hm
        rw [hm] at hsp hsl hr
        have hx45 : ((x : Int) == 45) = decide (sg = 1) := by
          rw [← hsg]
          by_cases h45 : x = 45
          · subst h45; rfl
          · rw [if_neg h45]; simp; omega
        have HS := Lib.hid (And.intro hsp (And.intro hr hpn))
        clear hsp hr hpn hm0 hm hsg
        have hsg2 : sg = 0 ∨ sg = 1 := by omega
        rcases hsg2 with rfl | rfl
        · have e45 : ((x : Int) == 45) = false := hx45
          have hsp1 : ∀ W, Calls Tryz.prog 101 #[.string ⟨l.toArray⟩, .int .i64 (a : Int), .func (.func 103) #[] #[]] W (Ret (.int .i64 (m : Int)) W) := fun W => by have := HS.out.1 W; simpa using this
          have HS1 := Lib.hid (And.intro hsp1 HS.out.2)
          clear hsp1 HS hx45
          go_enter Tryz.func64, Tryz.ntmps64
          go_upto_region 1 with (fail)
          generalize hW : w.alloc _ = V
          obtain ⟨B, hB⟩ : ∃ B, w.heap.size = B := ⟨_, rfl⟩
          have HV := Lib.hid (stage V B hB hW.symm)
          have c0 : V.cell? ⟨B, 0, none⟩ = some (.int .i64 0) := by rw [cell_row V B 0 _ _ HV.out.1]; rfl
          have c1 : V.cell? ⟨B, 1, none⟩ = some (.string ⟨#[]⟩) := by rw [cell_row V B 1 _ _ HV.out.1]; rfl
          have c2 : V.cell? ⟨B, 2, none⟩ = some (.int .i64 0) := by rw [cell_row V B 2 _ _ HV.out.1]; rfl
          have f0 := frozen_of V B 0 _ _ HV.out.1
          have f1 := frozen_of V B 1 _ _ HV.out.1
          have f2 := frozen_of V B 2 _ _ HV.out.1
          rw [hB] at hAs ⊢
          clear hW
          go_wp2_with fail
          (with_reducible refine (HM.out _).mono ?_)
          rintro e w1 ⟨rfl, rfl⟩
          unfold markV
          go_wp2_with fail
          (with_reducible refine (HL.out _).mono ?_)
          rintro e w1 ⟨rfl, rfl⟩
          go_wp2_with fail
          (with_reducible refine (HS1.out.1 _).mono ?_)
          rintro e w1 ⟨rfl, rfl⟩
          have hr := HS1.out.2.1
          by_cases h0 : m = 0
          · rw [if_pos h0] at hr
            subst h0
            go_wp2_with fail
            (with_reducible refine (throw_any A ln _ 3 3 rfl _ HV.out.2.2.2).mono ?_)
            rintro e w2 ⟨rfl, rfl⟩
            subst hr
            exact ⟨rfl, by rw [hB]; exact HV.out.2.1, rfl⟩
          · rw [if_neg h0] at hr
            have e0 : ((m : Int) == 0) = false := by simp; omega
            have HP := Lib.hid (And.intro (HS1.out.2.2 h0) hr)
            clear hr
            go_wp2_with fail
            obtain ⟨q, hq⟩ : ∃ q, (l.drop a).take m = q := ⟨_, rfl⟩
            have hq2 : (l.drop a).take (0 + m) = q := by rw [← hq]; congr 1; omega
            rw [hq]
            have hp := HP.out
            rw [hq2] at hp
            have hql : q.length ≤ 1000000 := by rw [← hq, List.length_take, List.length_drop]; omega
            have hsz : (⟨q.toArray⟩ : ByteArray).size ≤ 281474976710656 := by simp [ByteArray.size]; omega
            have HP1 := Lib.hid (And.intro hp hsz)
            clear hq hq2 hp hsz HP hql
            rcases hE : Lib.parseIntB 64 q with v | _ | _
            · have hT : Pl.numT q = v := by unfold Pl.numT; rw [hE]
              have HP2 : Hid (R = some (⟨1, [], v⟩, 0 + m)) := Lib.hid (by rw [← HP1.out.1.2, hT])
              have HC2 := Lib.hid (fun w => Tryz.strconv_ParseInt_10_at64_ok ⟨q.toArray⟩ (by have := HP1.out.2; omega) v (by rw [tlm]; exact hE) w)
              clear hT hE
              (with_reducible refine (HC2.out _).mono ?_)
              rintro e w2 ⟨rfl, hw⟩
              have hb2 : Below V.heap.size V w2 := by rcases hw with hw | ⟨t, hw⟩ <;> rw [hw]; exact Below.refl _ _; exact below_bytes V _ t
              clear hw
              have hbE : Below B w w2 := HV.out.2.1.trans (hb2.mono (Nat.le_of_lt HV.out.2.2.1))
              have hzE := (hb2.block B HV.out.2.2.1).trans HV.out.1
              have HE := Lib.hid (And.intro hbE hzE)
              have g0 : w2.cell? ⟨B, 0, none⟩ = some (.int .i64 0) := by rw [cell_row w2 B 0 _ _ hzE]; rfl
              have g1 : w2.cell? ⟨B, 1, none⟩ = some (.string ⟨#[]⟩) := by rw [cell_row w2 B 1 _ _ hzE]; rfl
              have g2 : w2.cell? ⟨B, 2, none⟩ = some (.int .i64 0) := by rw [cell_row w2 B 2 _ _ hzE]; rfl
              have k0 := frozen_of w2 B 0 _ _ hzE
              have k1 := frozen_of w2 B 1 _ _ hzE
              have k2 := frozen_of w2 B 2 _ _ hzE
              clear hbE hzE hb2 c0 c1 c2 f0 f1 f2
              go_wp2_with fail
              generalize hW : World.setCell (World.setCell _ _ _) _ _ = W1
              have hf := tok3 ⟨1, [], v⟩ HE.out.2 HE.out.1 hW
              refine bodyPost_ret (resultsA2 (cs := tkL ⟨1, [], v⟩) (x := .int .i64 ((m : Int))) rfl rfl (rangeA hf.1) Tryz.underlying115 rfl info_tk rfl) rfl ⟨by rw [hB]; exact hf.2, ?_⟩
              rw [HP2.out]
              show Ending.returned (.tuple #[_, .int .i64 ((m : Int))]) = Ending.returned (.tuple #[_, .int .i64 ((0 + m : Nat) : Int)])
              rw [show ((m : Int) : Int) = ((0 + m : Nat) : Int) by omega]
              rfl
            · exact absurd hE HP1.out.1.1
            · have hT : Pl.numT q = Lib.intSat 64 q := by unfold Pl.numT; rw [hE]
              have HP2 : Hid (R = some (⟨1, [], Lib.intSat 64 q⟩, 0 + m)) := Lib.hid (by rw [← HP1.out.1.2, hT])
              obtain ⟨ev, h1, h2, h3⟩ := HVr.out.below (by rw [hB]; exact HV.out.2.1)
              have HC2 := Lib.hid (Tryz.strconv_ParseInt_10_at64_range ⟨q.toArray⟩ HP1.out.2 (by rw [tlm]; exact hE) ev V h1 h3)
              rw [tlm] at HC2
              clear hT hE h1 h2 h3
              (with_reducible refine HC2.out.mono ?_)
              rintro e w2 ⟨N, rfl, -, -, hb2⟩
              have hbE : Below B w w2 := HV.out.2.1.trans (hb2.mono (Nat.le_of_lt HV.out.2.2.1))
              have hzE := (hb2.block B HV.out.2.2.1).trans HV.out.1
              have HE := Lib.hid (And.intro hbE hzE)
              have g0 : w2.cell? ⟨B, 0, none⟩ = some (.int .i64 0) := by rw [cell_row w2 B 0 _ _ hzE]; rfl
              have g1 : w2.cell? ⟨B, 1, none⟩ = some (.string ⟨#[]⟩) := by rw [cell_row w2 B 1 _ _ hzE]; rfl
              have g2 : w2.cell? ⟨B, 2, none⟩ = some (.int .i64 0) := by rw [cell_row w2 B 2 _ _ hzE]; rfl
              have k0 := frozen_of w2 B 0 _ _ hzE
              have k1 := frozen_of w2 B 1 _ _ hzE
              have k2 := frozen_of w2 B 2 _ _ hzE
              clear hbE hzE hb2 c0 c1 c2 f0 f1 f2
              go_wp2_with fail
              generalize hW : World.setCell (World.setCell _ _ _) _ _ = W1
              have hf := tok3 ⟨1, [], Lib.intSat 64 q⟩ HE.out.2 HE.out.1 hW
              refine bodyPost_ret (resultsA2 (cs := tkL ⟨1, [], Lib.intSat 64 q⟩) (x := .int .i64 ((m : Int))) rfl rfl (rangeA hf.1) Tryz.underlying115 rfl info_tk rfl) rfl ⟨by rw [hB]; exact hf.2, ?_⟩
              rw [HP2.out]
              show Ending.returned (.tuple #[_, .int .i64 ((m : Int))]) = Ending.returned (.tuple #[_, .int .i64 ((0 + m : Nat) : Int)])
              rw [show ((m : Int) : Int) = ((0 + m : Nat) : Int) by omega]
              rfl
        · have e45 : ((x : Int) == 45) = true := hx45
          have hsp1 : ∀ W, Calls Tryz.prog 101 #[.string ⟨l.toArray⟩, .int .i64 ((a : Int) + 1), .func (.func 103) #[] #[]] W (Ret (.int .i64 (m : Int)) W) := fun W => by have := HS.out.1 W; simpa using this
          have HS1 := Lib.hid (And.intro hsp1 HS.out.2)
          clear hsp1 HS hx45
          go_enter Tryz.func64, Tryz.ntmps64
          go_upto_region 1 with (fail)
          generalize hW : w.alloc _ = V
          obtain ⟨B, hB⟩ : ∃ B, w.heap.size = B := ⟨_, rfl⟩
          have HV := Lib.hid (stage V B hB hW.symm)
          have c0 : V.cell? ⟨B, 0, none⟩ = some (.int .i64 0) := by rw [cell_row V B 0 _ _ HV.out.1]; rfl
          have c1 : V.cell? ⟨B, 1, none⟩ = some (.string ⟨#[]⟩) := by rw [cell_row V B 1 _ _ HV.out.1]; rfl
          have c2 : V.cell? ⟨B, 2, none⟩ = some (.int .i64 0) := by rw [cell_row V B 2 _ _ HV.out.1]; rfl
          have f0 := frozen_of V B 0 _ _ HV.out.1
          have f1 := frozen_of V B 1 _ _ HV.out.1
          have f2 := frozen_of V B 2 _ _ HV.out.1
          rw [hB] at hAs ⊢
          clear hW
          go_wp2_with fail
          (with_reducible refine (HM.out _).mono ?_)
          rintro e w1 ⟨rfl, rfl⟩
          unfold markV
          go_wp2_with fail
          (with_reducible refine (HL.out _).mono ?_)
          rintro e w1 ⟨rfl, rfl⟩
          go_wp2_with fail
          (with_reducible refine (HS1.out.1 _).mono ?_)
          rintro e w1 ⟨rfl, rfl⟩
          have hr := HS1.out.2.1
          by_cases h0 : m = 0
          · rw [if_pos h0] at hr
            subst h0
            go_wp2_with fail
            (with_reducible refine (throw_any A ln _ 3 3 rfl _ HV.out.2.2.2).mono ?_)
            rintro e w2 ⟨rfl, rfl⟩
            subst hr
            exact ⟨rfl, by rw [hB]; exact HV.out.2.1, rfl⟩
          · rw [if_neg h0] at hr
            have e0 : ((m : Int) == 0) = false := by simp; omega
            have HP := Lib.hid (And.intro (HS1.out.2.2 h0) hr)
            clear hr
            go_wp2_with fail
            obtain ⟨q, hq⟩ : ∃ q, (l.drop a).take (a + 1 + m - a) = q := ⟨_, rfl⟩
            have hq2 : (l.drop a).take (1 + m) = q := by rw [← hq]; congr 1; omega
            rw [hq]
            have hp := HP.out
            rw [hq2] at hp
            have hql : q.length ≤ 1000000 := by rw [← hq, List.length_take, List.length_drop]; omega
            have hsz : (⟨q.toArray⟩ : ByteArray).size ≤ 281474976710656 := by simp [ByteArray.size]; omega
            have HP1 := Lib.hid (And.intro hp hsz)
            clear hq hq2 hp hsz HP hql
            rcases hE : Lib.parseIntB 64 q with v | _ | _
            · have hT : Pl.numT q = v := by unfold Pl.numT; rw [hE]
              have HP2 : Hid (R = some (⟨1, [], v⟩, 1 + m)) := Lib.hid (by rw [← HP1.out.1.2, hT])
              have HC2 := Lib.hid (fun w => Tryz.strconv_ParseInt_10_at64_ok ⟨q.toArray⟩ (by have := HP1.out.2; omega) v (by rw [tlm]; exact hE) w)
              clear hT hE
              (with_reducible refine (HC2.out _).mono ?_)
              rintro e w2 ⟨rfl, hw⟩
              have hb2 : Below V.heap.size V w2 := by rcases hw with hw | ⟨t, hw⟩ <;> rw [hw]; exact Below.refl _ _; exact below_bytes V _ t
              clear hw
              have hbE : Below B w w2 := HV.out.2.1.trans (hb2.mono (Nat.le_of_lt HV.out.2.2.1))
              have hzE := (hb2.block B HV.out.2.2.1).trans HV.out.1
              have HE := Lib.hid (And.intro hbE hzE)
              have g0 : w2.cell? ⟨B, 0, none⟩ = some (.int .i64 0) := by rw [cell_row w2 B 0 _ _ hzE]; rfl
              have g1 : w2.cell? ⟨B, 1, none⟩ = some (.string ⟨#[]⟩) := by rw [cell_row w2 B 1 _ _ hzE]; rfl
              have g2 : w2.cell? ⟨B, 2, none⟩ = some (.int .i64 0) := by rw [cell_row w2 B 2 _ _ hzE]; rfl
              have k0 := frozen_of w2 B 0 _ _ hzE
              have k1 := frozen_of w2 B 1 _ _ hzE
              have k2 := frozen_of w2 B 2 _ _ hzE
              clear hbE hzE hb2 c0 c1 c2 f0 f1 f2
              go_wp2_with fail
              generalize hW : World.setCell (World.setCell _ _ _) _ _ = W1
              have hf := tok3 ⟨1, [], v⟩ HE.out.2 HE.out.1 hW
              refine bodyPost_ret (resultsA2 (cs := tkL ⟨1, [], v⟩) (x := .int .i64 (1 + (m : Int))) rfl rfl (rangeA hf.1) Tryz.underlying115 rfl info_tk rfl) rfl ⟨by rw [hB]; exact hf.2, ?_⟩
              rw [HP2.out]
              show Ending.returned (.tuple #[_, .int .i64 (1 + (m : Int))]) = Ending.returned (.tuple #[_, .int .i64 ((1 + m : Nat) : Int)])
              rw [show (1 + (m : Int) : Int) = ((1 + m : Nat) : Int) by omega]
              rfl
            · exact absurd hE HP1.out.1.1
            · have hT : Pl.numT q = Lib.intSat 64 q := by unfold Pl.numT; rw [hE]
              have HP2 : Hid (R = some (⟨1, [], Lib.intSat 64 q⟩, 1 + m)) := Lib.hid (by rw [← HP1.out.1.2, hT])
              obtain ⟨ev, h1, h2, h3⟩ := HVr.out.below (by rw [hB]; exact HV.out.2.1)
              have HC2 := Lib.hid (Tryz.strconv_ParseInt_10_at64_range ⟨q.toArray⟩ HP1.out.2 (by rw [tlm]; exact hE) ev V h1 h3)
              rw [tlm] at HC2
              clear hT hE h1 h2 h3
              (with_reducible refine HC2.out.mono ?_)
              rintro e w2 ⟨N, rfl, -, -, hb2⟩
              have hbE : Below B w w2 := HV.out.2.1.trans (hb2.mono (Nat.le_of_lt HV.out.2.2.1))
              have hzE := (hb2.block B HV.out.2.2.1).trans HV.out.1
              have HE := Lib.hid (And.intro hbE hzE)
              have g0 : w2.cell? ⟨B, 0, none⟩ = some (.int .i64 0) := by rw [cell_row w2 B 0 _ _ hzE]; rfl
              have g1 : w2.cell? ⟨B, 1, none⟩ = some (.string ⟨#[]⟩) := by rw [cell_row w2 B 1 _ _ hzE]; rfl
              have g2 : w2.cell? ⟨B, 2, none⟩ = some (.int .i64 0) := by rw [cell_row w2 B 2 _ _ hzE]; rfl
              have k0 := frozen_of w2 B 0 _ _ hzE
              have k1 := frozen_of w2 B 1 _ _ hzE
              have k2 := frozen_of w2 B 2 _ _ hzE
              clear hbE hzE hb2 c0 c1 c2 f0 f1 f2
              go_wp2_with fail
              generalize hW : World.setCell (World.setCell _ _ _) _ _ = W1
              have hf := tok3 ⟨1, [], Lib.intSat 64 q⟩ HE.out.2 HE.out.1 hW
              refine bodyPost_ret (resultsA2 (cs := tkL ⟨1, [], Lib.intSat 64 q⟩) (x := .int .i64 (1 + (m : Int))) rfl rfl (rangeA hf.1) Tryz.underlying115 rfl info_tk rfl) rfl ⟨by rw [hB]; exact hf.2, ?_⟩
              rw [HP2.out]
              show Ending.returned (.tuple #[_, .int .i64 (1 + (m : Int))]) = Ending.returned (.tuple #[_, .int .i64 ((1 + m : Nat) : Int)])
              rw [show (1 + (m : Int) : Int) = ((1 + m : Nat) : Int) by omega]
              rfl
    · have hsp := fun W => span_any 102 (fun c W => by kernel_rfl) Pl.lodB (fun c W => lod_any c W) l a (a : Int) rfl (Nat.le_of_lt ha) hl W
      have hsl := Pl.span_le Pl.lodB (l.drop a)
      rw [List.length_drop] at hsl
      have hr := HR.out
      simp only [if_true] at hr
      obtain ⟨n, hn⟩ : ∃ n, Pl.spanN Pl.lodB (l.drop a) = n := ⟨_, rfl⟩
      rw [hn] at hsp hsl hr
      have hal : (a : Int) + (n : Int) ≤ (l.length : Int) := by omega
      have HS := Lib.hid (And.intro hsp hr.symm)
      clear hsp hr hn
      go_enter Tryz.func64, Tryz.ntmps64
      go_upto_region 1 with (fail)
      generalize hW : w.alloc _ = V
      obtain ⟨B, hB⟩ : ∃ B, w.heap.size = B := ⟨_, rfl⟩
      have HV := Lib.hid (stage V B hB hW.symm)
      have c0 : V.cell? ⟨B, 0, none⟩ = some (.int .i64 0) := by rw [cell_row V B 0 _ _ HV.out.1]; rfl
      have c1 : V.cell? ⟨B, 1, none⟩ = some (.string ⟨#[]⟩) := by rw [cell_row V B 1 _ _ HV.out.1]; rfl
      have c2 : V.cell? ⟨B, 2, none⟩ = some (.int .i64 0) := by rw [cell_row V B 2 _ _ HV.out.1]; rfl
      have f0 := frozen_of V B 0 _ _ HV.out.1
      have f1 := frozen_of V B 1 _ _ HV.out.1
      have f2 := frozen_of V B 2 _ _ HV.out.1
      rw [hB] at hAs ⊢
      clear hW
      go_wp2_with fail
      (with_reducible refine (HM.out _).mono ?_)
      rintro e w1 ⟨rfl, rfl⟩
      unfold markV
      go_wp2_with fail
      (with_reducible refine (HL.out _).mono ?_)
      rintro e w1 ⟨rfl, rfl⟩
      go_wp2_with fail
      (with_reducible refine (HS.out.1 _).mono ?_)
      rintro e w1 ⟨rfl, rfl⟩
      go_wp2_with fail
      generalize hW : World.setCell (World.setCell _ _ _) _ _ = W1
      have hf := tok3 ⟨0, (l.drop a).take n, 0⟩ HV.out.1 HV.out.2.1 hW
      refine bodyPost_ret (resultsA2 (cs := tkL ⟨0, (l.drop a).take n, 0⟩) (x := .int .i64 (n : Int)) rfl rfl (rangeA hf.1) Tryz.underlying115 rfl info_tk rfl) rfl ⟨by rw [hB]; exact hf.2, ?_⟩
      rw [HS.out.2]
      rfl
  · have hRn : R = some (⟨k, [], 0⟩, 1) := HR.out.symm
    go_enter Tryz.func64, Tryz.ntmps64
    go_upto_region 1 with (fail)
    generalize hW : w.alloc _ = V
    obtain ⟨B, hB⟩ : ∃ B, w.heap.size = B := ⟨_, rfl⟩
    have HV := Lib.hid (stage V B hB hW.symm)
    have c0 : V.cell? ⟨B, 0, none⟩ = some (.int .i64 0) := by rw [cell_row V B 0 _ _ HV.out.1]; rfl
    have c1 : V.cell? ⟨B, 1, none⟩ = some (.string ⟨#[]⟩) := by rw [cell_row V B 1 _ _ HV.out.1]; rfl
    have c2 : V.cell? ⟨B, 2, none⟩ = some (.int .i64 0) := by rw [cell_row V B 2 _ _ HV.out.1]; rfl
    have f0 := frozen_of V B 0 _ _ HV.out.1
    have f1 := frozen_of V B 1 _ _ HV.out.1
    have f2 := frozen_of V B 2 _ _ HV.out.1
    rw [hB] at hAs ⊢
    clear hW
    go_wp2_with fail
    (with_reducible refine (HM.out _).mono ?_)
    rintro e w1 ⟨rfl, rfl⟩
    unfold markV
    go_wp2_with fail
    generalize hW : World.setCell (World.setCell _ _ _) _ _ = W1
    have hf := tok3 ⟨k, [], 0⟩ HV.out.1 HV.out.2.1 hW
    refine bodyPost_ret (resultsA2 (cs := tkL ⟨k, [], 0⟩) (x := .int .i64 1) rfl rfl (rangeA hf.1) Tryz.underlying115 rfl info_tk rfl) rfl ⟨by rw [hB]; exact hf.2, ?_⟩
    rw [hRn]
    rfl
end Go.Proofs.YtmmnkoeajdeldaaGreatDoor
