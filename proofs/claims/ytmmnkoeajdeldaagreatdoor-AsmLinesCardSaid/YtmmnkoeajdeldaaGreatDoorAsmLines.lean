/- AsmLines: instructions that may be, one line each, make their words. -/
import Derived.Test.YtmmnkoeajdeldaaGreatDoorShaped
import Derived.Test.YtmmnkoeajdeldaaGreatDoorTie
import Derived.Test.YtmmnkoeajdeldaaGreatDoorCards
import Derived.Test.YtmmnkoeajdeldaaGreatDoorAsS
import Derived.Test.YtmmnkoeajdeldaaGreatDoorAsLaid
import Derived.Test.YtmmnkoeajdeldaaGreatDoorAsTx
import Derived.Test.YtmmnkoeajdeldaaGreatDoorAsRd
import Derived.Test.YtmmnkoeajdeldaaGreatDoorIsaT
import Derived.Test.YtmmnkoeajdeldaaGreatDoorIsaD
import Derived.Test.YtmmnkoeajdeldaaGreatDoorOpenU
namespace Go.Proofs.YtmmnkoeajdeldaaGreatDoor
open Go.ChangeShapes Go.WideShapes Go.ChangeAt Go.RowKit
set_option linter.unusedVariables false
set_option linter.unusedSimpArgs false
attribute [local go_sem] ba_get ba_cut ba_add
theorem decX_insOk {y : Nat} (h : Pl.decOk y = true) : Pl.InsOk (Pl.decX y) := by
  have hd := Pl.decOk_iff h
  have ho := Pl.enc_op hd.1
  have hp := Pl.enc_parts hd.1
  exact ⟨by omega, by omega, by omega, by omega, by omega, by omega⟩
theorem lines_snoc (l : List Nat) (k : Nat) (h : k < l.length) : Pl.joinN ((l.take (k + 1)).map Pl.lineW) = Pl.joinN ((l.take k).map Pl.lineW) ++ (Pl.lineW l[k] ++ [10]) := by
  rw [List.take_succ_eq_append_getElem h, List.map_append, Pl.joinN_app]
  rfl
theorem lines_le (l : List Nat) (h : ∀ w ∈ l, w < 4294967296) (k : Nat) (hk : k ≤ 60) : (Pl.joinN ((l.take k).map Pl.lineW)).length ≤ 6060 := by
  have h1 := Pl.joinN_le (N := 100) (l := (l.take k).map Pl.lineW) (fun x hx => by
    obtain ⟨w, hw, rfl⟩ := List.mem_map.1 hx
    exact (Pl.lineW_ok w (h w (List.mem_of_mem_take hw))).2)
  rw [List.length_map, List.length_take] at h1
  have h2 : min k l.length ≤ 60 := by omega
  have h3 := Nat.mul_le_mul_left 101 h2
  omega
set_option maxRecDepth 100000 in
set_option maxHeartbeats 4000000 in
theorem asmLines_walk (A : Option Addr) (n c : Nat) (l : List Nat) (w : World) (hA : l.length = n ∧ Rd w 1 A n (w32s l) ∧ n ≤ 140737488355328) (hl : ∀ x ∈ l, x < 4294967296) (hv : VLaw w) :
    Calls Tryz.prog 4 #[.slice A n c] w (RetB (fun v _ => v = .bool true) w) := by
  have HV := Lib.hid hv
  have HA := Lib.hid hA
  have HL := Lib.hid hl
  have hn := hA.2.2
  clear hv hA hl
  go_enter Tryz.func4, Tryz.ntmps4
  by_cases h1 : 60 < n
  · go_wp2_with fail
    (with_reducible refine (fixed_any w HV.out.asm).mono ?_)
    rintro x w2 ⟨v, rfl, rfl, hb⟩
    go_wp2_with fail
    go_ret
    exact ⟨_, rfl, rfl, hb⟩
  go_wp2_with fail
  go_loopw [3, 17] (fun s i wr => ∃ (k : Nat), k ≤ n ∧ i = .int .i64 (k : Int) ∧ s = .string ⟨(Pl.joinN ((l.take k).map Pl.lineW)).toArray⟩ ∧ Hid (Below w.heap.size w wr)) (fun _ i _ => n - (intOf i).toNat)
  case atStart => exact ⟨0, by omega, rfl, rfl, Lib.hid (Below.refl _ _)⟩
  case round =>
    obtain ⟨k, hk, rfl, rfl, HB⟩ := hrel
    by_cases hkn : k < n
    · have hkl : k < l.length := by rw [HA.out.1]; exact hkn
      obtain ⟨b, off, hAe, hbl, hcell⟩ := (HA.out.2.1.below HB.out).at1 hkn
      subst hAe
      have hx0 := lines_le l HL.out k (by omega)
      have hsn := lines_snoc l k hkl
      have hc2 : (w32s l)[k]? = some (.int .u32 (l[k] : Int)) := w32_at l k hkl
      rw [hc2] at hcell
      have hy0 := HL.out l[k] (List.getElem_mem hkl)
      obtain ⟨y, hy⟩ : ∃ y, l[k] = y := ⟨_, rfl⟩
      obtain ⟨X, hX⟩ : ∃ X, Pl.joinN ((l.take k).map Pl.lineW) = X := ⟨_, rfl⟩
      rw [hy] at hcell hsn hy0
      rw [hX] at hx0 hsn ⊢
      have hlw := (Pl.lineW_ok y hy0).2
      have HY := Lib.hid hsn
      have HV2 := Lib.hid (HV.out.below HB.out)
      clear hc2 hy hX hsn
      have hd := fun W => dec_any y W hy0
      unfold decV at hd
      cases hok : Pl.decOk y with
      | true =>
        have hio := decX_insOk hok
        have hT : Pl.lineW y = Pl.textI (Pl.decX y) := by unfold Pl.lineW; rw [if_pos hok]
        rw [hok] at hd
        rw [hT] at hlw HY
        simp only [if_true] at hd
        obtain ⟨x, hx⟩ : ∃ x, Pl.decX y = x := ⟨_, rfl⟩
        rw [hx] at hd hio hlw HY
        have hte := fun W hO hT => itext_any x W hio hO hT
        obtain ⟨T, hTT⟩ : ∃ T, Pl.textI x = T := ⟨_, rfl⟩
        rw [hTT] at hlw HY hte
        obtain ⟨op, a, b', c', imm⟩ := x
        unfold insV at hd hte
        simp only at hd hte
        have HD := Lib.hid hd
        have HT := Lib.hid hte
        clear hd hte hio hx hTT hT hok
        go_wp2_with fail
        (with_reducible refine (HD.out _).mono ?_)
        rintro e w2 ⟨v, rfl, rfl, hb2⟩
        have hB2 : Below _ _ w2 := HB.out.trans (hb2.mono HB.out.size)
        have hV2 := HV2.out.below hb2
        have HB2 := Lib.hid (And.intro hB2 (And.intro hb2 hV2))
        clear hB2 hb2 hV2
        go_wp2_with fail
        obtain ⟨w3, hw3⟩ : ∃ V, w2.alloc (.cells #[.int .u8 (op : Int), .int .u8 (a : Int), .int .u8 (b' : Int), .int .u8 (c' : Int), .int .i32 imm] 33) = V := ⟨_, rfl⟩
        have hb3 : Below w2.heap.size w2 w3 := by rw [← hw3]; exact (Below.refl _ _).alloc (Nat.le_refl _) _
        have hV3 := HB2.out.2.2.below hb3
        have HB3 := Lib.hid (HB2.out.1.trans (hb3.mono HB2.out.1.size))
        rw [hw3]
        clear hw3 hb3
        (with_reducible refine (HT.out _ hV3.asm.ops hV3.num.tab).mono ?_)
        rintro e w4 ⟨v, rfl, rfl, hb4⟩
        clear hV3
        go_wp2_with fail
        exact ⟨⟨k + 1, by omega, ret_i (by omega), by rw [HY.out], Lib.hid (HB3.out.trans (hb4.mono HB3.out.size))⟩, by simp only [intOf]; omega⟩
      | false =>
        have hT : Pl.lineW y = [114, 97, 119, 32] ++ Lib.itoa (y : Int) := by unfold Pl.lineW; rw [hok]; rfl
        rw [hok] at hd
        rw [hT] at hlw HY
        have hrd := fun W => rdec11_any y (by omega) W
        obtain ⟨T, hTT⟩ : ∃ T, Lib.itoa (y : Int) = T := ⟨_, rfl⟩
        rw [hTT] at hlw HY hrd
        simp only [Bool.false_eq_true, if_false] at hd
        have hlT : T.length ≤ 100 := by simp at hlw; omega
        have HD := Lib.hid hd
        have HT := Lib.hid hrd
        clear hd hrd hTT hT hok
        go_wp2_with fail
        (with_reducible refine (HD.out _).mono ?_)
        rintro e w2 ⟨v, rfl, rfl, hb2⟩
        have HB2 := Lib.hid (HB.out.trans (hb2.mono HB.out.size))
        clear hb2
        go_wp2_with fail
        obtain ⟨w3, hw3⟩ : ∃ V, w2.alloc (.cells #[.int .u8 0, .int .u8 0, .int .u8 0, .int .u8 0, .int .i32 0] 33) = V := ⟨_, rfl⟩
        have hb3 : Below w2.heap.size w2 w3 := by rw [← hw3]; exact (Below.refl _ _).alloc (Nat.le_refl _) _
        have HB3 := Lib.hid (HB2.out.trans (hb3.mono HB2.out.size))
        rw [hw3]
        clear hw3 hb3
        (with_reducible refine (HT.out _).mono ?_)
        rintro e w4 ⟨rfl, rfl⟩
        go_wp2_with fail
        exact ⟨⟨k + 1, by omega, ret_i (by omega), by rw [HY.out]; simp, HB3⟩, by simp only [intOf]; omega⟩
    · have hkn2 : k = n := by omega
      have hx0 := lines_le l HL.out k (by omega)
      have htk : l.take k = l := List.take_of_length_le (by rw [HA.out.1]; omega)
      rw [htk] at hx0 ⊢
      have hmk := (Pl.mk_words l HL.out (by rw [HA.out.1]; omega)).1
      obtain ⟨G, hG⟩ : ∃ G, Pl.joinN (l.map Pl.lineW) = G := ⟨_, rfl⟩
      rw [hG] at hx0 hmk ⊢
      have HE := Lib.hid hmk
      have HV2 := Lib.hid (HV.out.below HB.out)
      have HR := Lib.hid (HA.out.2.1.below HB.out)
      clear hG hmk htk
      go_wp2_with fail
      (with_reducible refine (make_any G wr (by omega) HV2.out.asm).mono ?_)
      rintro x w3 hq
      obtain ⟨tA, c3, rfl, hr3, hl3, hb3⟩ := hq.val
      rw [HE.out] at hr3 hl3 ⊢
      dsimp only [Pl.resE] at hr3 hl3 ⊢
      have e1 : xeV tA c3 ⟨l, [], 0, 0⟩ = .agg #[.slice tA l.length c3, .string ⟨#[]⟩, .int .i64 0, .int .u32 0] := rfl
      rw [e1]
      rw [HA.out.1] at hr3 hl3 ⊢
      have hB3 := HB.out.trans (hb3.mono HB.out.size)
      have hV3 := HV2.out.below hb3
      have hR3 := HR.out.below hb3
      have H3 := Lib.hid (And.intro hr3 (And.intro hB3 (And.intro hV3 (And.intro hR3 hl3))))
      clear e1 hq hb3 hr3 hB3 hV3 hR3
      go_upto_region 13 with (fail)
      obtain ⟨w4, hw4⟩ : ∃ V, w3.alloc (.cells #[.slice tA n c3, .string ⟨#[]⟩, .int .i64 0, .int .u32 0] 26) = V := ⟨_, rfl⟩
      obtain ⟨B4, hB4⟩ : ∃ B, w3.heap.size = B := ⟨_, rfl⟩
      have hz4 : w4.heap[B4]? = some (.cells #[.slice tA n c3, .string ⟨#[]⟩, .int .i64 0, .int .u32 0] 26 (0, 0)) := by rw [← hw4, ← hB4]; exact heap_alloc_new _ _
      have hb4 : Below w3.heap.size w3 w4 := by rw [← hw4]; exact (Below.refl _ _).alloc (Nat.le_refl _) _
      rw [hw4, hB4]
      clear hw4
      have hr4 := H3.out.1.below hb4
      have hR4 := H3.out.2.2.2.1.below hb4
      have hbb4 := H3.out.2.1.trans (hb4.mono H3.out.2.1.size)
      have hv4 := H3.out.2.2.1.asm.below hb4
      have H4 := Lib.hid (And.intro hz4 (And.intro hr4 (And.intro hR4 (And.intro hbb4 hv4))))
      clear hz4 hr4 hR4 hbb4 hv4 hb4
      have hfin : ∀ (w7 : World), Below w4.heap.size w4 w7 → Calls Tryz.prog 11 #[.agg #[.slice tA n c3, .string ⟨#[]⟩, .int .i64 0, .int .u32 0], .agg #[.slice A n c, .string ⟨#[]⟩, .int .i64 0, .int .u32 0]] w7 (RetB (fun v _ => v = .bool true) w7) := fun w7 hb7 => by
        have h := same11_any ⟨l, [], 0, 0⟩ ⟨l, [], 0, 0⟩ tA A c3 c w7 (by dsimp only; rw [HA.out.1]; exact H4.out.2.1.below hb7) (by dsimp only; rw [HA.out.1]; exact H4.out.2.2.1.below hb7) (by dsimp only; rw [HA.out.1]; exact H3.out.2.2.2.2) (by dsimp only; rw [HA.out.1]; exact H3.out.2.2.2.2)
        rw [show sameE ⟨l, [], 0, 0⟩ ⟨l, [], 0, 0⟩ = true from decide_eq_true ⟨rfl, rfl, rfl, rfl⟩] at h
        have e2 : xeV tA c3 ⟨l, [], 0, 0⟩ = .agg #[.slice tA l.length c3, .string ⟨#[]⟩, .int .i64 0, .int .u32 0] := rfl
        have e3 : xeV A c ⟨l, [], 0, 0⟩ = .agg #[.slice A l.length c, .string ⟨#[]⟩, .int .i64 0, .int .u32 0] := rfl
        rw [e2, e3, HA.out.1] at h
        exact h
      have HF := Lib.hid hfin
      clear hfin
      go_wp2_with fail
      (with_reducible refine (fixed_any w4 H4.out.2.2.2.2).mono ?_)
      rintro x w7 ⟨v, rfl, rfl, hb7⟩
      obtain ⟨x0, x1, x2, x3⟩ := xeA_cells ((hb7.block B4 (blk_lt H4.out.1)).trans H4.out.1)
      have HB7 := Lib.hid hb7
      clear hb7
      go_wp2_with fail
      (with_reducible refine (HF.out w7 HB7.out).mono ?_)
      rintro x w8 ⟨v, rfl, rfl, hb8⟩
      clear x0 x1 x2 x3
      go_wp2_with fail
      go_ret
      have hb78 := HB7.out.trans (hb8.mono HB7.out.size)
      exact ⟨_, rfl, rfl, H4.out.2.2.2.1.trans (hb78.mono H4.out.2.2.2.1.size)⟩
-- FRAME
set_option maxRecDepth 100000 in
theorem asmLines_lifted (os : Os) (started : os.Started) (H : Type) (enc : TypeId × Value → H) :
    ReturnsInHanded {} Tryz.checked os 4 .any (fun w args => (Rows.asmLinesSpec.pre enc Tryz.prog Tryz.f4 [] false w args ∧ laidMetH Tryz.prog tabs8 w) ∧ sizedMet enc Tryz.prog Tryz.f4 (OpenSpec.ofChange Rows.asmLinesSpec) false w args) (Rows.asmLinesSpec.post enc Tryz.prog Tryz.f4 false true false false) := by
  refine handed_and_shaped (C := Tryz.checked) (X := fun w _ => laidMetH Tryz.prog tabs8 w) (fun _ _ _ hh h => h.of_heap hh) own started (by kernel_rfl) Tryz.func4
    (ChangeSpec.witness_shaped (enc := enc) (C := Tryz.checked) (os := os) (X := fun w _ => laidMetH Tryz.prog tabs8 w) false (World.laidAll Tryz.prog os tabs8) #[.slice none 0 0] 8 (World.laidAll_os _ _ _) (door_shaped8 os) (by kernel_rfl) (by kernel_rfl) (by kernel_rfl) (door_met8 os _)) ?_
  intro W base args ds gs before hval0 hW hcnd hsz0 hL hsh _
  have hvars := vlaw_of8 hL hsh
  have hval : ∀ (j : Nat) t v, Tryz.f4.params[j]? = some t → args[j]? = some v → Value.okWide Tryz.prog W .any base t v := hval0
  have hW' := hW
  obtain ⟨p, q, hA0, hV, rfl, hfz, hnd⟩ := hW
  have hA : DataW.TrodAll enc Tryz.prog W 0 (fun _ => true) true Tryz.f4.params.toList args.toList ds p := hA0
  have hsz : (DataW.weightsEach Tryz.prog (Tryz.f4.params.toList ++ Rows.asmLinesSpec.plain.varTypes Tryz.prog) (ds ++ gs)).all (· ≤ reachBytes) = true := hsz0
  rw [Tryz.params4] at hA hval hsz
  obtain ⟨v0, vs0, d0, ds0, p0, q0, hargs, rfl, rfl, h0, r0⟩ := trodAll_cons hA
  obtain ⟨rfl, rfl, rfl⟩ := trodAll_nil r0
  obtain rfl : args = #[v0] := by cases args; simp_all
  obtain ⟨rfl, rfl⟩ := trodVars_none hV
  have k0 := h0
  have lt0 : ∀ x ∈ p0, x.block < W.heap.size := by obtain ⟨m, hm⟩ := k0; exact DataW.trod_lt m _ _ _ hm
  have hz0 : ∀ m ∈ d0.weights Tryz.prog 23, m ≤ reachBytes := fun m hm => by
    have h1 := List.all_eq_true.1 hsz m (DataW.weights_mem_each (j := 0) rfl rfl m hm)
    simpa using h1
  obtain ⟨A0, n0, c0, l0, rfl, eA0, eB0⟩ := open_words (hval 0 23 v0 rfl rfl) h0 hz0
  clear hA0 hval0 hsz0
  refine (asmLines_walk A0 n0 c0 l0 W eA0 eB0 hvars).mono fun e W' ⟨v, he, hv, bel⟩ => ?_
  subst he hv
  exact ⟨_, rfl, _, _, _, [], _, [], hW', trodAll_mk1 (shut_bool Tryz.underlying4 _), (trodAll_cons_mk (Below.trod laidOut (by kernel_rfl) (of_decide_eq_true (by kernel_rfl)) k0 bel lt0) trodAll_mk0), rfl, bel.frame _, fun h => by cases h⟩

theorem asmLines_row : Rows.AsmLinesSaid :=
  OpenClaim.holds_of_wide 4 Tryz.f4 rfl rfl rfl rfl rfl rfl rfl ⟨rfl, rfl, rfl, rfl, rfl⟩ rfl rfl rfl rfl rfl (by kernel_rfl) Tryz.func4 (by kernel_rfl)
    (of_decide_eq_true (by kernel_rfl)) (by unfold Func.isWrapper; first | (rw [if_pos (by decide +kernel)]; kernel_rfl) | (rw [if_neg (by decide +kernel)]; exact ⟨rfl, rfl⟩))
    (fun os started H enc _ => asmLines_lifted os started H enc)

theorem asmLines_holds : Rows.AsmLinesCardSaid :=
  Claim7.holds_tied_plain_at .later [] [.data, .data, .data, .data, .sentinel, .sentinel, .data, .pinned] true (true, "818a6ed589f336af0c0d102f47932e8562c39db2379b8541c17b0339f756e312") true
    asmLines_row (fun _ h => by cases h) (by kernel_rfl) (fun _ h => by cases h) asmLines_row_tie rfl ⟨rfl, rfl⟩ (by kernel_rfl) rfl
    (fun f fn hf hfn => by
      obtain rfl : f = 4 := Option.some.inj ((show Tryz.prog.funcNamed "hibernacle/hibernaclelaw11.AsmLines" = some 4 by kernel_rfl).symm.trans hf) |>.symm
      obtain rfl : fn = Tryz.f4 := (Option.some.inj (Tryz.func4.symm.trans hfn)).symm
      exact ⟨by kernel_rfl, fun j t ht => by
        rw [Tryz.params4] at ht
        rcases j with _ | _ | _ | _ | j
        all_goals first
          | (simp at ht; done)
          | (have h3 := Option.some.inj ht; subst h3; exact (show Tryz.prog.wantsStandIn _ = false by kernel_rfl))⟩)
    (by kernel_rfl)
#print axioms asmLines_holds
end Go.Proofs.YtmmnkoeajdeldaaGreatDoor
