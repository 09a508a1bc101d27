/- The walks of the document's Insert and Names, of Great and Same. -/
import Derived.Test.YtommlolhpaeioaaDoorRawW
namespace Go.Proofs.YtommlolhpaeioaaDoor
open Go.RowKit
set_option linter.unusedVariables false
set_option linter.unusedSimpArgs false
attribute [local go_sem] ba_get ba_cut ba_add
/-- A slice that the call made, of texts. -/
def OutT (base : Nat) (l : List (List UInt8)) (v : Value) (w' : World) : Prop := ∃ A c, v = .slice A l.length c ∧ w'.ownsRow base 9 1 (.slice A l.length c) l.length (strs l)
theorem insR_done {s x : List UInt8} {o : List (List UInt8)} : Pl.insR s (o, true) x = (if x = s then o else o ++ [x], true) := by simp [Pl.insR]
theorem insR_less {s x : List UInt8} {o : List (List UInt8)} (h : Pl.less x s = true) : Pl.insR s (o, false) x = (o ++ [x], false) := by simp [Pl.insR, h, Pl.less_ne h]
theorem insR_ge {s x : List UInt8} {o : List (List UInt8)} (h : Pl.less x s = false) : Pl.insR s (o, false) x = (if x = s then o ++ [s] else o ++ [s] ++ [x], true) := by simp [Pl.insR, h]
theorem strs_snoc' (l : List (List UInt8)) (s : List UInt8) (n : Nat) (h : l.length = n) : strs l ++ [.string ⟨s.toArray⟩] = strs (l ++ [s]) ∧ (l ++ [s]).length = n + 1 := ⟨(strs_snoc l s).symm, by simp [h]⟩
set_option maxRecDepth 100000 in
set_option maxHeartbeats 4000000 in
theorem insert_any (A : Option Addr) (n c : Nat) (l : List (List UInt8)) (s : List UInt8) (w : World) (ha : Rd w 1 A n (strs l)) (hn : n ≤ 1099511627776) : Calls Tryd.prog 60 #[.slice A n c, .string ⟨s.toArray⟩] w (RetB (OutT w.heap.size (Pl.insL l s)) w) := by
  have hl := ha.len1; rw [strs_len] at hl
  have HL := Lib.hid hl; clear hl
  have HI := Lib.hid info_str
  go_enter Tryd.func60, Tryd.ntmps60
  go_wp2_with fail
  go_loopw [5, 6, 12] (fun v d i wr => ∃ (k : Nat) (o : List (List UInt8)) (b : Bool) (B : Option Addr) (m cc : Nat), k ≤ n ∧ i = .int .i64 (k : Nat) ∧ d = .bool b ∧ v = .slice B m cc ∧ wr.ownsRow w.heap.size 9 1 (.slice B m cc) m (strs o) ∧ Below w.heap.size w wr ∧ m ≤ 2 * k ∧ Hid (Pl.insF (l.take k) s = (o, b) ∧ o.length = m)) (fun _ _ i _ => n - (intOf i).toNat)
  case atStart => exact ⟨0, [], false, _, 0, 0, by omega, rfl, rfl, rfl, World.ownsRow_made _ _ _ (Nat.le_refl _) (by simp [maxLen]) (by simp), (Below.refl _ _).alloc (Nat.le_refl _) _, by omega, ⟨rfl, rfl⟩⟩
  case round =>
    obtain ⟨k, o, b, B, m, cc, hk, rfl, rfl, rfl, hown, hbV, hm, HX⟩ := hrel
    by_cases hkl : k < n
    · have hkd : k < l.length := by rw [HL.out]; exact hkl
      obtain ⟨b1, o1, rfl, -, hc1⟩ := (ha.below hbV).at1 hkl
      rw [strs_get l k hkd] at hc1
      have hst := Pl.insF_take l s k hkd
      rw [HX.out.1] at hst
      obtain ⟨x, hx⟩ : ∃ x, l[k] = x := ⟨_, rfl⟩
      rw [hx] at hc1 hst
      have HS := Lib.hid hst; clear hst hx
      cases b with
      | true =>
        by_cases hxs : x = s
        · have hne : (x == s) = true := beq_iff_eq.2 hxs
          have HXS := Lib.hid hxs; clear hxs
          go_wp2_with fail
          go_roundw
          case rel => exact ⟨k + 1, o, true, B, m, cc, by omega, by go_num, rfl, rfl, hown, hbV, by omega, ⟨by rw [HS.out, insR_done, if_pos HXS.out], HX.out.2⟩⟩
          case measure => simp [intOf]; omega
        · have hne : (x == s) = false := beq_eq_false_iff_ne.2 hxs
          have HXS := Lib.hid hxs; clear hxs
          go_wp2_with (at_builtin; refine push_one rfl (.tmp 30) (.tmp 32) 23 rfl w.heap.size 9 (.string ⟨#[]⟩) 16 Tryd.underlying23 HI.out rfl _ _ _ _ _ rfl hown rfl rfl (by omega) (by omega) hbV.size ?_; intro v1 w1 hown1 hb1; obtain ⟨A1, c1, rfl⟩ := own_form' hown1)
          go_roundw
          case rel =>
            obtain ⟨e1, e2⟩ := strs_snoc' o x m HX.out.2
            rw [e1] at hown1
            exact ⟨k + 1, o ++ [x], true, A1, m + 1, c1, by omega, by go_num, rfl, rfl, hown1, hbV.trans hb1, by omega, ⟨by rw [HS.out, insR_done, if_neg HXS.out], e2⟩⟩
          case measure => simp [intOf]; omega
      | false =>
        cases hlt : Pl.less x s with
        | true =>
          have hbl : Op.bytesLess x s = true := hlt
          have hne : (x == s) = false := beq_eq_false_iff_ne.2 (Pl.less_ne hlt)
          have HLT := Lib.hid hlt; clear hlt
          go_wp2_with (at_builtin; refine push_one rfl (.tmp 30) (.tmp 32) 23 rfl w.heap.size 9 (.string ⟨#[]⟩) 16 Tryd.underlying23 HI.out rfl _ _ _ _ _ rfl hown rfl rfl (by omega) (by omega) hbV.size ?_; intro v1 w1 hown1 hb1; obtain ⟨A1, c1, rfl⟩ := own_form' hown1)
          go_roundw
          case rel =>
            obtain ⟨e1, e2⟩ := strs_snoc' o x m HX.out.2
            rw [e1] at hown1
            exact ⟨k + 1, o ++ [x], false, A1, m + 1, c1, by omega, by go_num, rfl, rfl, hown1, hbV.trans hb1, by omega, ⟨by rw [HS.out, insR_less HLT.out], e2⟩⟩
          case measure => simp [intOf]; omega
        | false =>
          have hbl : Op.bytesLess x s = false := hlt
          by_cases hxs : x = s
          · have hne : (x == s) = true := beq_iff_eq.2 hxs
            have HXS := Lib.hid hxs; clear hxs
            have HLT := Lib.hid hlt; clear hlt
            go_wp2_with (at_builtin; refine push_one rfl (.tmp 23) (.tmp 25) 23 rfl w.heap.size 9 (.string ⟨#[]⟩) 16 Tryd.underlying23 HI.out rfl _ _ _ _ _ rfl hown rfl rfl (by omega) (by omega) hbV.size ?_; intro v1 w1 hown1 hb1; obtain ⟨A1, c1, rfl⟩ := own_form' hown1)
            go_roundw
            case rel =>
              obtain ⟨e1, e2⟩ := strs_snoc' o s m HX.out.2
              rw [e1] at hown1
              exact ⟨k + 1, o ++ [s], true, A1, m + 1, c1, by omega, by go_num, rfl, rfl, hown1, hbV.trans hb1, by omega, ⟨by rw [HS.out, insR_ge HLT.out, if_pos HXS.out], e2⟩⟩
            case measure => simp [intOf]; omega
          · have hne : (x == s) = false := beq_eq_false_iff_ne.2 hxs
            have HXS := Lib.hid hxs; clear hxs
            have HLT := Lib.hid hlt; clear hlt
            go_wp2_with (at_builtin; first | (refine push_one rfl (.tmp 23) (.tmp 25) 23 rfl w.heap.size 9 (.string ⟨#[]⟩) 16 Tryd.underlying23 HI.out rfl _ _ _ _ _ rfl hown rfl rfl (by omega) (by omega) hbV.size ?_; intro v1 w1 hown1 hb1; obtain ⟨A1, c1, rfl⟩ := own_form' hown1) | (refine push_one rfl (.tmp 30) (.tmp 32) 23 rfl w.heap.size 9 (.string ⟨#[]⟩) 16 Tryd.underlying23 HI.out rfl _ _ _ _ _ rfl hown1 rfl rfl (by omega) (by omega) (hbV.trans hb1).size ?_; intro v2 w2 hown2 hb2; obtain ⟨A2, c2, rfl⟩ := own_form' hown2))
            go_roundw
            case rel =>
              obtain ⟨e1, e2⟩ := strs_snoc' o s m HX.out.2
              obtain ⟨e3, e4⟩ := strs_snoc' (o ++ [s]) x (m + 1) e2
              rw [e1, e3] at hown2
              exact ⟨k + 1, o ++ [s] ++ [x], true, A2, m + 1 + 1, c2, by omega, by go_num, rfl, rfl, hown2, (hbV.trans hb1).trans hb2, by omega, ⟨by rw [HS.out, insR_ge HLT.out, if_neg HXS.out], e4⟩⟩
            case measure => simp [intOf]; omega
    · obtain rfl : k = n := by omega
      have he : Pl.insL l s = Pl.insE (o, b) s := by
        unfold Pl.insL
        have := HX.out.1
        rw [List.take_of_length_le (by rw [HL.out]; omega)] at this
        rw [this]
      have HE := Lib.hid he; clear he
      cases b with
      | true =>
        go_wp2_with fail
        go_ret
        refine ⟨_, rfl, ?_, hbV⟩
        rw [HE.out]
        show OutT _ o _ _
        exact ⟨B, cc, by rw [HX.out.2]; rfl, by rw [HX.out.2]; exact hown⟩
      | false =>
        go_wp2_with (at_builtin; refine push_one rfl (.tmp 37) (.tmp 39) 23 rfl w.heap.size 9 (.string ⟨#[]⟩) 16 Tryd.underlying23 HI.out rfl _ _ _ _ _ rfl hown rfl rfl (by omega) (by omega) hbV.size ?_; intro v1 w1 hown1 hb1; obtain ⟨A1, c1, rfl⟩ := own_form' hown1)
        go_ret
        refine ⟨_, rfl, ?_, hbV.trans hb1⟩
        obtain ⟨e1, e2⟩ := strs_snoc' o s m HX.out.2
        rw [e1] at hown1
        rw [HE.out]
        show OutT _ (o ++ [s]) _ _
        exact ⟨A1, c1, by rw [e2]; rfl, by rw [e2]; exact hown1⟩
end Go.Proofs.YtommlolhpaeioaaDoor
