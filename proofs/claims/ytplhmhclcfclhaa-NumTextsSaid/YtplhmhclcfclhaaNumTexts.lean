/- NumTexts: for every text the statement returns true, and nothing that was there has turned. No condition. -/
import Derived.Test.YtplhmhclcfclhaaNumRows
namespace Go.Proofs.Ytplhmhclcfclhaa
open Go.ChangeShapes Go.WideShapes Go.ChangeAt Go.RowKit
set_option linter.unusedVariables false

theorem rtexts_at (b0 : List UInt8) (l : List (List UInt8)) (e : Nat) (h : Pl.texts b0 = (l, e)) (w : World) (hs : b0.length ≤ 1099511627776) :
    Calls Try.prog 20 #[.string ⟨b0.toArray⟩] w fun en w' => ∃ A c, en = .returned (.tuple #[.slice A l.length c, .int .i64 e]) ∧ Rd w' 1 A l.length (strs l) ∧ w'.ownsRow w.heap.size 9 1 (.slice A l.length c) l.length (strs l) ∧ Below w.heap.size w w' := by
  refine (rtexts_any b0 w hs).mono ?_
  rintro en w' ⟨v, rfl, ⟨sv, rfl, hown⟩, hb⟩
  rw [h] at hown ⊢
  simp only at hown ⊢
  obtain ⟨A, c, hv⟩ : ∃ A c, sv = .slice A l.length c := by
    rcases hown.2 with ⟨h1, h2⟩ | ⟨g, cap, cur, h1, _⟩
    · exact ⟨none, 0, by rw [h1, h2]⟩
    · exact ⟨_, cap, h1⟩
  subst hv
  exact ⟨A, c, rfl, Rd.own hown, hown, hb⟩

theorem textsA_len : ∀ (k : Nat) (b : List UInt8) (acc : List (List UInt8)), b.length ≤ k → (Pl.textsA k b acc).1.length ≤ acc.length + b.length
  | 0, b, acc, h => by simp [Pl.textsA]
  | k + 1, b, acc, h => by
    by_cases hb : b = []
    · subst hb; rw [Pl.textsA_nil]; simp
    · obtain ⟨⟨n, u, e⟩, hlr⟩ : ∃ x, Pl.lenOf b 0 0 = x := ⟨_, rfl⟩
      by_cases he : e = 0
      · subst he
        have hbd := Pl.lenOf_bd b 0 0 (by omega) (by omega)
        rw [hlr] at hbd
        simp at hbd
        by_cases hs : (b.drop u).length < n
        · rw [Pl.textsA_short (k + 1) b acc n u hb h hlr hs]; simp
        · rw [Pl.textsA_more (k + 1) b acc n u hb h hlr hs]
          have := textsA_len k ((b.drop u).drop n) (acc ++ [(b.drop u).take n]) (by simp; omega)
          simp at this ⊢; omega
      · rw [Pl.textsA_err (k + 1) b acc n u e hb h hlr he]; simp

set_option maxRecDepth 100000 in
set_option maxHeartbeats 1000000 in
theorem numTexts_walk (b : List UInt8) (w : World) (hl : b.length ≤ 140737488355328) :
    Calls Try.prog 4 #[.string ⟨b.toArray⟩] w (RetB (fun v _ => v = .bool true) w) := by
  by_cases hlong : 5000 < b.length
  · go_enter Try.func4, Try.ntmps4
    go_wp2_with fail
    (with_reducible refine (alive_any _).mono ?_)
    rintro en w1 ⟨v, rfl, rfl, hb1⟩
    go_wp2_with fail
    go_ret
    exact ⟨_, rfl, rfl, hb1⟩
  · obtain ⟨⟨l, e⟩, ht⟩ : ∃ x, Pl.texts b = x := ⟨_, rfl⟩
    have hln : l.length ≤ 5000 := by
      have := textsA_len b.length b [] (Nat.le_refl _)
      rw [show Pl.textsA b.length b [] = (l, e) from ht] at this
      simp at this; omega
    have HT := Lib.hid ht; clear ht
    by_cases he : e = 0
    · subst he
      have hrow := Pl.rowB_texts b l HT.out
      have hsum : sumLen l ≤ 10000 := by
        have h1 : ∀ l : List (List UInt8), sumLen l ≤ (Pl.rowB l).length := by
          intro l
          induction l with
          | nil => simp [sumLen]
          | cons x l ih =>
            have := lenB_pos x.length
            simp [sumLen, Pl.rowB]; omega
        have := h1 l
        rw [hrow] at this; omega
      have HR := Lib.hid hrow; clear hrow
      go_enter Try.func4, Try.ntmps4
      go_wp2_with fail
      (with_reducible refine (alive_any _).mono ?_)
      rintro en w1 ⟨v, rfl, rfl, hb1⟩
      go_wp2_with fail
      (with_reducible refine (texts_at b l 0 HT.out _ (by omega)).mono ?_)
      rintro en w2 ⟨A2, c2, rfl, hr2, -, hb2⟩
      have hb12 := hb1.trans (hb2.mono hb1.size)
      go_wp2_with fail
      (with_reducible refine (rtexts_at b l 0 HT.out _ (by omega)).mono ?_)
      rintro en w3 ⟨A3, c3, rfl, hr3, -, hb3⟩
      have hb13 := hb12.trans (hb3.mono hb12.size)
      go_wp2_with fail
      (with_reducible refine (same_any A2 A3 _ _ c2 c3 l l _ (hr2.below hb3) hr3 (by omega) (by omega)).mono ?_)
      rintro en w4 ⟨rfl, q, rfl⟩
      rw [show decide (l = l) = true by simp]
      go_wp2_with fail
      (with_reducible refine (row_any A2 _ c2 l _ ((hr2.below hb3).drewN q) (by omega) (by omega)).mono ?_)
      rintro en w5 ⟨v, rfl, rfl, hb5⟩
      rw [HR.out]
      go_wp2_with fail
      go_ret
      exact ⟨_, rfl, rfl, (below_drewN hb13 q).trans (hb5.mono (below_drewN hb13 q).size)⟩
    · have he1 : ((e : Int) != 0) = true := by rw [bne_iff_ne]; omega
      go_enter Try.func4, Try.ntmps4
      go_wp2_with fail
      (with_reducible refine (alive_any _).mono ?_)
      rintro en w1 ⟨v, rfl, rfl, hb1⟩
      go_wp2_with fail
      (with_reducible refine (texts_at b l e HT.out _ (by omega)).mono ?_)
      rintro en w2 ⟨A2, c2, rfl, hr2, -, hb2⟩
      have hb12 := hb1.trans (hb2.mono hb1.size)
      go_wp2_with fail
      (with_reducible refine (rtexts_at b l e HT.out _ (by omega)).mono ?_)
      rintro en w3 ⟨A3, c3, rfl, hr3, -, hb3⟩
      have hb13 := hb12.trans (hb3.mono hb12.size)
      go_wp2_with fail
      (with_reducible refine (same_any A2 A3 _ _ c2 c3 l l _ (hr2.below hb3) hr3 (by omega) (by omega)).mono ?_)
      rintro en w4 ⟨rfl, q, rfl⟩
      rw [show decide (l = l) = true by simp]
      go_wp2_with fail
      go_ret
      exact ⟨_, rfl, rfl, below_drewN hb13 q⟩

set_option maxRecDepth 100000 in
theorem numTexts_lifted (os : Os) (started : os.Started) (H : Type) (enc : TypeId × Value → H) :
    ReturnsInHanded {} Try.checked os 4 .any (Rows.numTextsSpec.pre6 enc Try.prog Try.f4 Rows.numTextsRow.domain false) (Rows.numTextsSpec.post enc Try.prog Try.f4 false true false false) := by
  refine returnsInHanded_of_change_sized (C := Try.checked) own started (by kernel_rfl) Try.func4
    (ChangeSpec.witness6 (enc := enc) (C := Try.checked) false ⟨#[], #[.string ⟨#[]⟩], []⟩ 8 (by kernel_rfl) (by kernel_rfl) (by kernel_rfl) (by kernel_rfl)) ?_
  intro W base args ds gs before hval0 hW hcnd hsz0 _
  have hval : ∀ (j : Nat) t v, Try.f4.params[j]? = some t → args[j]? = some v → Value.okWide Try.prog W .any base t v := hval0
  have hW' := hW
  obtain ⟨p, q, hA0, hV, rfl, hfz, hnd⟩ := hW
  have hA : DataW.TrodAll enc Try.prog W 0 (fun _ => true) true Try.f4.params.toList args.toList ds p := hA0
  have hsz : (DataW.weightsEach Try.prog (Try.f4.params.toList ++ Rows.numTextsSpec.plain.varTypes Try.prog) (ds ++ gs)).all (· ≤ reachBytes) = true := hsz0
  rw [Try.params4] at hA hval hsz
  obtain ⟨v0, vs0, d0, ds0, p0, q0, hargs, rfl, rfl, h0, r0⟩ := trodAll_cons hA
  obtain ⟨rfl, rfl, rfl⟩ := trodAll_nil r0
  obtain rfl : args = #[v0] := by cases args; simp_all
  obtain ⟨rfl, rfl⟩ := trodVars_none hV
  have k0 := h0
  have lt0 : ∀ x ∈ p0, x.block < W.heap.size := by obtain ⟨m, hm⟩ := k0; exact DataW.trod_lt m _ _ _ hm
  have hz0 : ∀ m ∈ d0.weights Try.prog 9, m ≤ reachBytes := fun m hm => by
    have h1 := List.all_eq_true.1 hsz m (DataW.weights_mem_each (j := 0) rfl rfl m hm)
    simpa using h1
  obtain ⟨l0, rfl, eA0⟩ := open_str (hval 0 9 v0 rfl rfl) h0 hz0
  clear hA0 hval0 hsz0
  refine (numTexts_walk l0 W (Nat.le_trans eA0 reach_le)).mono fun e W' ⟨v, he, hv, bel⟩ => ?_
  subst he hv
  exact ⟨_, rfl, _, _, _, [], _, [], hW', trodAll_mk1 (shut_bool Try.underlying4 _), (trodAll_cons_mk (Below.trod laidOut (by kernel_rfl) (of_decide_eq_true (by kernel_rfl)) k0 bel lt0) trodAll_mk0), rfl, bel.frame _, fun h => by cases h⟩

theorem numTexts_holds : Rows.NumTextsSaid :=
  OpenClaim.holds_of_wide 4 Try.f4 rfl rfl rfl rfl rfl rfl rfl ⟨rfl, rfl, rfl, rfl, rfl⟩ rfl rfl rfl rfl rfl (by kernel_rfl) Try.func4 (by kernel_rfl)
    (of_decide_eq_true (by kernel_rfl)) (by unfold Func.isWrapper; first | (rw [if_pos (by decide +kernel)]; kernel_rfl) | (rw [if_neg (by decide +kernel)]; exact ⟨rfl, rfl⟩))
    (fun os started H enc _ => numTexts_lifted os started H enc)
#print axioms numTexts_holds
end Go.Proofs.Ytplhmhclcfclhaa
