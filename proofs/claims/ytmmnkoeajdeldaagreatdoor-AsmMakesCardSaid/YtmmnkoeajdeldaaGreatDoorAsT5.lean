/- A row of bytes of the call's own, nil or not, as a text. The assembler's quote. No condition beside the sizes. -/
import Derived.Test.YtmmnkoeajdeldaaGreatDoorAsT1
namespace Go.Proofs.YtmmnkoeajdeldaaGreatDoor
open Go.RowKit
theorem own_conv {w : World} {base : Nat} {v : Value} {bl : List UInt8} (h : w.ownsRow base 5 1 v bl.length (u8C bl)) : (convert 59 9 v).run Tryz.prog w = .ok (.string ⟨bl.toArray⟩) w := by
  rcases h.2 with ⟨rfl, h0⟩ | ⟨g, cap, cur, rfl, _⟩
  · obtain rfl : bl = [] := List.eq_nil_of_length_eq_zero h0
    kernel_rfl
  · refine bytes_conv w g 0 bl.length cap bl rfl fun j hj => ?_
    have := h.cells (g := g) rfl j (.int .u8 (bl[j].toNat : Int)) (by simp [u8C, hj])
    rwa [addr_add] at this
theorem resultsA2 {fn : Func} {tmps : Array Value} {w : World} {a b B : Nat} {T : TypeId} {cs : List Value} {d : TypeDesc} (hf : fn.results = #[.cell a T, .tmp b]) (ha : tmps[a]?.getD undef = .pointer (some ⟨B, 0, none⟩)) (hc : w.rangeAt B 0 cs) (hu : Tryz.prog.underlying T = some d) (hd : d.isRow = true) (hi : (Tryz.prog.info? T).map (·.size) = some cs.length) {x : Value} (hx : tmps.getD b undef = x) :
    (results fn tmps).run Tryz.prog w = .ok (.tuple #[.agg cs.toArray, x]) w := by
  have h := run_loadVar_mid (P := Tryz.prog) w B 0 T cs d hc hu hd hi
  subst hx
  simp [results, hf, ha, asAddr, h]
end Go.Proofs.YtmmnkoeajdeldaaGreatDoor
namespace Go.Proofs.YtmmnkoeajdeldaaGreatDoor
open Go.RowKit Go.Maps Go.WideMaps
set_option linter.unusedVariables false
set_option linter.unusedSimpArgs false
attribute [local go_sem] ba_get ba_cut ba_add fld_k fld_s fld_n
theorem info_u8b : (Tryz.prog.info? 5).map (fun i => (i.zero, i.size, i.bytes)) = some (some (.int .u8 0), 1, 1) := by kernel_rfl
/-- A token was read at a place of a line: it, and how many signs it has; nothing that was there is turned. -/
def TokQ (w : World) (ln : Nat) (E : Option (Pl.Tk × Nat)) (x : Ending) (w' : World) : Prop := Below w.heap.size w w' ∧ match E with
  | none => Thrown 3 ln x
  | some (t, n) => x = .returned (.tuple #[tkV t, .int .i64 (n : Int)])
def quoE (l : List UInt8) (a : Nat) : Option (Pl.Tk × Nat) := (Pl.quo (l.drop (a + 1))).map fun y => (⟨6, y.1, 0⟩, y.2 + 1)
set_option maxRecDepth 100000 in
set_option maxHeartbeats 1000000 in
theorem quote_any (A ln : Nat) (Z : AsV) (l : List UInt8) (a : Nat) (w : World) (H : AsB w A ln Z) (hl : l.length ≤ 1000000) (ha : a < l.length) : Calls Tryz.prog 104 #[.pointer (some ⟨A, 0, none⟩), .string ⟨l.toArray⟩, .int .i64 (a : Int)] w (TokQ w ln (quoE l a)) := by
  obtain ⟨R, hR⟩ : ∃ R, quoE l a = R := ⟨_, rfl⟩
  rw [hR]
  have HR := Lib.hid hR
  have HH := Lib.hid H
  have hAs := H.lt
  clear hR H
  go_enter Tryz.func104, Tryz.ntmps104
  go_upto_region 1 with (fail)
  generalize hW : w.alloc _ = V
  obtain ⟨B, hB⟩ : ∃ B, w.heap.size = B := ⟨_, rfl⟩
  have hz : V.heap[B]? = some (.cells #[.int .i64 0, .string ⟨#[]⟩, .int .i64 0] 115 (0, 0)) := by rw [← hW, ← hB]; exact heap_alloc_new _ _
  have hb : Below B w V := by rw [← hW, ← hB]; exact (Below.refl _ _).alloc (Nat.le_refl _) _
  have HV := Lib.hid (And.intro hz (And.intro hb (blk_lt hz)))
  have HB := Lib.hid (HH.out.below hb (by omega))
  rw [hB] at hAs ⊢
  clear hW hz hb
  go_wp2_with fail
  go_loopw [8, 9] (fun v i wr => ∃ (k : Nat) (bl : List UInt8), a + 1 ≤ k ∧ k ≤ l.length ∧ bl.length ≤ k ∧ i = .int .i64 (k : Int) ∧ wr.ownsRow (B + 1) 5 1 v bl.length (u8C bl) ∧ Below (B + 1) V wr ∧ Hid ((Pl.quo (l.drop k)).map (fun y => ((⟨6, bl ++ y.1, 0⟩ : Pl.Tk), k - a + y.2)) = R)) (fun _ i _ => l.length - (intOf i).toNat)
  case atStart =>
    refine ⟨a + 1, [], by omega, by omega, by simp, rfl, ⟨rfl, .inl ⟨rfl, rfl⟩⟩, Below.refl _ _, Lib.hid ?_⟩
    rw [← HR.out]
    unfold quoE
    congr 1
    funext y
    rw [show a + 1 - a = 1 by omega, Nat.add_comm 1 y.2, List.nil_append]
  case round =>
    obtain ⟨k, bl, hk1, hk2, hbl, rfl, hown, hbV, HK⟩ := hrel
    obtain ⟨vA, vc, rfl⟩ := own_form' hown
    by_cases hkl : k < l.length
    · have hcons : Pl.quo (l.drop k) = Pl.quo (l[k] :: l.drop (k + 1)) := by rw [List.drop_eq_getElem_cons hkl]
      rw [Pl.quo_cons] at hcons
      obtain ⟨c, hc⟩ : ∃ c, l[k] = c := ⟨_, rfl⟩
      rw [hc] at hcons
      have hix : ∀ W', (Instr.index 9 (.string ⟨l.toArray⟩) (.int .i64 (k : Int))).run Tryz.prog W' = .ok (.int .u8 (c.toNat : Int)) W' := by
        intro W'
        rw [← hc]
        simp [go_sem, hkl]
      have HK2 := HK.out
      rw [hcons] at HK2
      have hbw : Below B w wr := HV.out.2.1.trans (hbV.mono (by omega))
      have HB1 := HB.out.below hbV (by omega)
      have hcl := c.toNat_lt
      obtain ⟨x, hx⟩ : ∃ x, c.toNat = x := ⟨_, rfl⟩
      rw [hx] at hix hcl HK2
      have HX := Lib.hid (And.intro hbw hbV)
      clear hbw hbV hcons HK
      by_cases h1 : x = 34
      · rw [if_pos h1] at HK2
        subst h1
        have hcv := own_conv hown
        have hzr := (HX.out.2.block B (by omega)).trans HV.out.1
        have c0 : wr.cell? ⟨B, 0, none⟩ = some (.int .i64 0) := by rw [cell_row wr B 0 _ _ hzr]; rfl
        have c1 : wr.cell? ⟨B, 1, none⟩ = some (.string ⟨#[]⟩) := by rw [cell_row wr B 1 _ _ hzr]; rfl
        have c2 : wr.cell? ⟨B, 2, none⟩ = some (.int .i64 0) := by rw [cell_row wr B 2 _ _ hzr]; rfl
        have f0 := frozen_of wr B 0 _ _ hzr
        have f1 := frozen_of wr B 1 _ _ hzr
        have f2 := frozen_of wr B 2 _ _ hzr
        have hRn : R = some (⟨6, bl, 0⟩, k - a + 1) := by rw [← HK2]; simp
        have HN := Lib.hid (And.intro hzr hown)
        clear HK2 hzr hown hc hx
        go_wp2_with fail
        generalize hW : World.setCell (World.setCell _ _ _) _ _ = W1
        have hz1 : W1.heap[B]? = some (.cells (tkL ⟨6, bl, 0⟩).toArray 115 (0, 0)) := by
          rw [← hW, set_at _ B 2 _ _ _ (set_at _ B 1 _ _ _ (set_at wr B 0 _ _ _ HN.out.1))]; rfl
        have hb1 : Below B w W1 := by
          rw [← hW]
          exact ((HX.out.1.setCell (p := ⟨B, 0, none⟩) (Nat.le_refl _) _).setCell (p := ⟨B, 1, none⟩) (Nat.le_refl _) _).setCell (p := ⟨B, 2, none⟩) (Nat.le_refl _) _
        refine bodyPost_ret (resultsA2 (cs := tkL ⟨6, bl, 0⟩) (x := .int .i64 ((k : Int) + 1 - (a : Int))) rfl rfl (rangeA hz1) Tryz.underlying115 rfl info_tk rfl) rfl ⟨by rw [hB]; exact hb1, ?_⟩
        rw [hRn]
        show Ending.returned (.tuple #[tkV ⟨6, bl, 0⟩, _]) = Ending.returned (.tuple #[tkV ⟨6, bl, 0⟩, _])
        rw [ret_i (show (k : Int) + 1 - (a : Int) = ((k - a + 1 : Nat) : Int) by omega)]
      rw [if_neg h1] at HK2
      have e1 : ((x : Int) == 34) = false := by simp; omega
      by_cases h2 : x = 92
      · rw [if_pos h2] at HK2
        subst h2
        have hEs := escape_any A ln Z (l.drop (k + 1)) wr HB1 (by rw [List.length_drop]; omega)
        have hhi : B + 1 ≤ wr.heap.size := Nat.le_trans HV.out.2.2 HX.out.2.size
        have hpos := @Pl.esc_pos (l.drop (k + 1))
        obtain ⟨E, hE⟩ : ∃ E, Pl.esc (l.drop (k + 1)) = E := ⟨_, rfl⟩
        rw [hE] at HK2 hEs hpos
        rw [← cut_all l (k + 1)] at hEs
        have HN := Lib.hid (And.intro hhi (And.intro hown (And.intro HK2 hEs)))
        have hkl' : (k : Int) + 1 ≤ (l.length : Int) := by omega
        clear h1 HK2 hown hhi hc hEs hE hx
        rcases E with _ | ⟨y, n⟩
        · have hRn : R = none := HN.out.2.2.1.symm
          clear hpos
          go_wp2_with fail
          (with_reducible refine (HN.out.2.2.2).mono ?_)
          rintro e w2 ⟨rfl, rfl⟩
          subst hRn
          exact ⟨rfl, by rw [hB]; exact HX.out.1, rfl⟩
        · obtain ⟨p1, p2⟩ := hpos rfl
          rw [List.length_drop] at p2
          clear hpos
          go_wp2_with fail
          (with_reducible refine (HN.out.2.2.2).mono ?_)
          rintro e w2 ⟨rfl, rfl⟩
          go_wp2_with (at_builtin; refine push_one rfl (.tmp 46) (.tmp 48) 59 rfl (B + 1) 5 (.int .u8 0) 1 Tryz.underlying59 info_u8b rfl _ _ _ _ (.int .u8 (y.toNat : Int)) rfl HN.out.2.1 rfl rfl (by omega) (by omega) HN.out.1 ?_; intro v1 w3 hown1 hb1; have HO := Lib.hid (And.intro hown1 hb1); clear hown1 hb1)
          refine ⟨⟨k + 1 + n, bl ++ [y], by omega, by omega, by simp; omega, ret_i (by omega), ?_, HX.out.2.trans HO.out.2, Lib.hid ?_⟩, by simp only [intOf]; omega⟩
          · have h := HO.out.1
            rw [List.length_append]
            simpa [u8C] using h
          · rw [← HN.out.2.2.1]
            simp only [Option.map_map]
            rw [List.drop_drop]
            congr 1
            funext z
            simp only [Function.comp, List.append_assoc, List.singleton_append]
            rw [show k + 1 + n - a + z.2 = k - a + (1 + n + z.2) by omega]
      rw [if_neg h2] at HK2
      have e2 : ((x : Int) == 92) = false := by simp; omega
      by_cases h3 : 32 ≤ x ∧ x ≤ 126
      · rw [if_pos h3] at HK2
        obtain ⟨g1, g2⟩ := h3
        have hhi : B + 1 ≤ wr.heap.size := Nat.le_trans HV.out.2.2 HX.out.2.size
        have HN := Lib.hid (And.intro hhi (And.intro hown (And.intro HK2 hx)))
        clear h1 h2 HK2 hown hhi hx hc
        go_wp2_with (at_builtin; refine push_one rfl (.tmp 61) (.tmp 63) 59 rfl (B + 1) 5 (.int .u8 0) 1 Tryz.underlying59 info_u8b rfl wr _ _ _ (.int .u8 (x : Int)) rfl HN.out.2.1 rfl rfl (by omega) (by omega) HN.out.1 ?_; intro v1 w1 hown1 hb1; have HO := Lib.hid (And.intro hown1 hb1); clear hown1 hb1)
        refine ⟨⟨k + 1, bl ++ [c], by omega, by omega, by simp; omega, ret_i (by omega), ?_, HX.out.2.trans HO.out.2, Lib.hid ?_⟩, by simp only [intOf]; omega⟩
        · have h := HO.out.1
          rw [← HN.out.2.2.2] at h
          rw [List.length_append]
          simpa [u8C] using h
        · rw [← HN.out.2.2.1, Option.map_map]
          congr 1
          funext y
          simp only [Function.comp, List.append_assoc, List.singleton_append]
          rw [show k + 1 - a + y.2 = k - a + (1 + y.2) by omega]
      rw [if_neg h3] at HK2
      have hRn : R = none := by rw [← HK2]; rfl
      clear HK2 h1 h2
      go_wp2_with fail
      all_goals try (exfalso; omega)
      all_goals
        (with_reducible refine (throw_any A ln _ 3 3 rfl _ HB1).mono ?_)
        rintro e w2 ⟨rfl, rfl⟩
        subst hRn
        exact ⟨rfl, by rw [hB]; exact HX.out.1, rfl⟩
    · have hRn : R = none := by rw [← HK.out, List.drop_eq_nil_of_le (by omega), Pl.quo_nil]; rfl
      have hbw : Below B w wr := HV.out.2.1.trans (hbV.mono (by omega))
      have HB1 := HB.out.below hbV (by omega)
      have HX := Lib.hid hbw
      clear hbw hbV hown
      go_wp2_with fail
      (with_reducible refine (throw_any A ln _ 3 3 rfl _ HB1).mono ?_)
      rintro e w2 ⟨rfl, rfl⟩
      exact ⟨rfl, by rw [hB]; exact HX.out, rfl⟩
end Go.Proofs.YtmmnkoeajdeldaaGreatDoor
