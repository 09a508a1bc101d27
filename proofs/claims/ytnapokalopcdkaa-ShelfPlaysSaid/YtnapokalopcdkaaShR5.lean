/- The walks of the reference's Put and Drop. -/
import Derived.Test.YtnapokalopcdkaaShL1
import Derived.Test.YtnapokalopcdkaaShR4
import Derived.Test.YtnapokalopcdkaaShW2
namespace Go.Proofs.Ytnapokalopcdkaa
open Go.RowKit
set_option linter.unusedVariables false
set_option linter.unusedSimpArgs false

theorem nf_eq (f : Int) : nf f = f ∨ (nf f = 0 ∧ f ≠ 1 ∧ f ≠ 2 ∧ f ≠ 3 ∧ f ≠ 4) := by unfold nf; split <;> omega
theorem putR_nf (l : List Pl.Obj) (f : Int) (nm d : List UInt8) : Pl.putR l (nf f) nm d = Pl.putR l f nm d := by
  rcases nf_eq f with h | ⟨h, h1, h2, h3, h4⟩
  · rw [h]
  · rw [h]; simp [Pl.putR, h1, h2, h3, h4]
theorem dropR_nf (l : List Pl.Obj) (f : Int) (nm : List UInt8) : Pl.dropR l (nf f) nm = Pl.dropR l f nm := by
  rcases nf_eq f with h | ⟨h, h1, h2, h3, h4⟩
  · rw [h]
  · rw [h]; simp [Pl.dropR, h1, h3, h4]
theorem getR_nf (l : List Pl.Obj) (f : Int) (nm : List UInt8) : Pl.getR l (nf f) nm = Pl.getR l f nm := by
  rcases nf_eq f with h | ⟨h, h1, h2, h3, h4⟩
  · rw [h]
  · rw [h]; simp [Pl.getR, h1, h2, h3, h4]
theorem namesR_nf (l : List Pl.Obj) (f : Int) (p : List UInt8) : Pl.namesR l (nf f) p = Pl.namesR l f p := by
  rcases nf_eq f with h | ⟨h, h1, h2, h3, h4⟩
  · rw [h]
  · rw [h]
    have e : Pl.selN 0 p = Pl.selN f p := by funext o; simp [Pl.selN, h3]
    simp [Pl.namesR, h1, h4, Pl.nms, e]
section
variable {w0 W W' : World} {B : Nat} {A A' : Option Addr} {n c m c' : Nat}
theorem Bx0.store (h : Bx0 w0 B A n c A' m c' W) (A1 A2 : Option Addr) (n1 c1 m2 c2 : Nat) : Bx0 w0 B A1 n1 c1 A2 m2 c2 ((W.setCell ⟨B, 0, none⟩ (.slice A1 n1 c1)).setCell ⟨B, 1, none⟩ (.slice A2 m2 c2)) where
  box := set_at _ _ 1 _ _ _ (set_at _ _ 0 _ _ _ h.box)
  res := (Below.heap_setCell _ _ _ _ (by simp)).trans ((Below.heap_setCell _ _ _ _ (by simp)).trans h.res)
  bel := (h.bel.setCell (Nat.le_refl _) _).setCell (Nat.le_refl _) _
  siz := by simpa [World.size_setCell] using h.siz
theorem Bx0.fin (h : Bx0 w0 B A n c A' m c' W) (x y : Value) : Below B w0 ((W.setCell ⟨B + 1, 0, none⟩ x).setCell ⟨B + 1, 1, none⟩ y) := (h.bel.setCell (by simp) _).setCell (by simp) _
/-- What a later world says of old cells, the first one said. -/
theorem SlAt.back {w : World} {k : Nat} {A2 A : Option Addr} {n2 c2 n c : Nat} {xs ys : List Value} (h : SlAt W k A2 n2 c2 ys) (hb : Below w.heap.size w W) (ho : SlAt w k A n c xs) (hbk : A2.map Addr.block = A.map Addr.block) (hn : 0 < n2 → 0 < n) : SlAt w k A2 n2 c2 ys := by
  refine ⟨⟨h.1.1, fun h0 => ?_⟩, h.2⟩
  obtain ⟨b, off, rfl, hlt, hc⟩ := h.1.2 h0
  obtain ⟨b', off', rfl, hlt', -⟩ := ho.1.2 (hn h0)
  simp only [Option.map_some, Option.some.injEq] at hbk
  subst hbk
  exact ⟨b, off, rfl, hlt', fun j hj => (hb.cell (p := ⟨b, off + j, none⟩) hlt').symm.trans (hc j hj)⟩
end
theorem instr_build_obj (a b c : ByteArray) (d : Bool) (w : World) : (Instr.build 50 #[(0, .string a), (1, .string b), (2, .string c), (3, .bool d)]).run Try.prog w = .ok (.agg #[.string a, .string b, .string c, .bool d]) w := run_build w 50 _ _ (by kernel_rfl)
theorem without_at (A A' : Option Addr) (n c m c' : Nat) (l : List Pl.Obj) (nm : List UInt8) (wi : Bool) (xn xd xw : List UInt8) (xh : Bool) (w : World) (hl : l.length = n) (hr : Rd w 4 A n (objCs l)) (hn : n ≤ 1000000) :
    Calls Try.prog 36 #[.agg #[.slice A n c, .slice A' m c'], .string ⟨nm.toArray⟩, .bool wi, .agg #[.string ⟨xn.toArray⟩, .string ⟨xd.toArray⟩, .string ⟨xw.toArray⟩, .bool xh]] w
      (RetB (WithoutOut (w.heap.size + 3) A' m c' (Pl.below l nm ++ ((if wi then [(⟨xn, xd, xw, xh⟩ : Pl.Obj)] else []) ++ Pl.above l nm))) w) := without_any A A' n c m c' l nm wi ⟨xn, xd, xw, xh⟩ w hl hr hn
theorem instr_build_zero (w : World) : (Instr.build 50 #[]).run Try.prog w = .ok (.agg #[.string ⟨#[]⟩, .string ⟨#[]⟩, .string ⟨#[]⟩, .bool false]) w := run_build w 50 _ _ (by kernel_rfl)
set_option maxRecDepth 100000 in
set_option maxHeartbeats 4000000 in
theorem rput_all (A A' : Option Addr) (c c' : Nat) (l : List Pl.Obj) (F : List Int) (nm d : List UInt8) (w : World) (n m : Nat) (hl : l.length = n) (hm : F.length = m) (hr : SlAt w 4 A n c (objCs l)) (hr' : SlAt w 1 A' m c' (ints F)) (hf : Pl.Fit 1000 l F) (hd : d.length ≤ 1000000) :
    Calls Try.prog 20 #[.agg #[.slice A n c, .slice A' m c'], .string ⟨nm.toArray⟩, .string ⟨d.toArray⟩] w (RetB (PutOut (Pl.putA l F nm d).1 (Pl.putA l F nm d).2.1 (Pl.putA l F nm d).2.2) w) := by
  have hn : n ≤ 1000 := by rw [← hl]; exact hf.1
  have hmm : m ≤ 1000 := by rw [← hm]; exact hf.2.1
  obtain ⟨E, hE⟩ : ∃ E, Pl.chk l = E := ⟨_, rfl⟩
  obtain ⟨R, hR⟩ : ∃ R, Pl.putA l F nm d = R := ⟨_, rfl⟩
  rw [hR]
  have hck := fun A A' c m c' w h => rcheck_any A A' n c m c' l w hl h (by omega)
  rw [hE] at hck
  have hft := fun A A' c c' w h => fate_any A A' n c m c' F w hm h
  obtain ⟨f, hff⟩ : ∃ f, F.headD 0 = f := ⟨_, rfl⟩
  obtain ⟨g, hgg⟩ : ∃ g, nf f = g := ⟨_, rfl⟩
  obtain ⟨T, hT⟩ : ∃ T, F.tail = T := ⟨_, rfl⟩
  unfold TakenOut at hft
  simp only [hff, hgg, hT] at hft
  unfold Pl.putA at hR
  simp only [hff, hT] at hR
  have HC := Lib.hid (And.intro hck (And.intro hft (And.intro hE (And.intro hgg hT)))); clear hck hft hE hff hgg hT
  have HL := Lib.hid (And.intro hl hm); clear hl hm
  have HR0 := Lib.hid hR; clear hR
  go_enter Try.func20, Try.ntmps20
  go_wp2_with fail
  have hb0 := bx_new w A A' n c m c'
  obtain ⟨V, hV⟩ : ∃ V, (w.alloc (.cells #[.slice A n c, .slice A' m c'] 25)).alloc (.cells #[.slice none 0 0, .slice none 0 0] 25) = V := ⟨_, rfl⟩
  rw [hV] at hb0 ⊢
  clear hV
  (with_reducible refine (HC.out.1 _ _ _ _ _ V (hr.below hb0.bel).rd).mono ?_)
  rintro e w1 ⟨v, rfl, rfl, hb1⟩
  replace hb0 := hb0.below hb1
  obtain ⟨x0, x1, r0, r1, xf, rf⟩ := hb0.cells
  by_cases hE0 : E = 0
  rotate_left
  · have HR := Lib.hid (show R = (l, F, E) by rw [← HR0.out]; unfold Pl.askE; rw [HC.out.2.2.1, if_pos hE0, if_pos hE0])
    have q0 : ((E : Int) != 0) = true := by simp; omega
    clear hE0
    go_wp2_with fail
    refine bodyPost_ret (v := .tuple #[.agg #[.slice A n c, .slice A' m c'], .int .i64 (E : Int)]) (by simp [results, Try.results20, go_sem, r0, r1]) rfl ?_
    have hfin := hb0.fin (.slice A n c) (.slice A' m c')
    refine ⟨_, rfl, ⟨A, c, A', c', ?_, ?_, ?_⟩, by first | exact hfin | exact hfin.drew⟩
    · rw [HR.out]; simp [HL.out.1, HL.out.2]
    · (try rw [HR.out]); simp only [HL.out.1, HL.out.2]; first | exact hr.below hfin | exact hr.below hfin.drew
    · rw [HR.out]; simp only [HL.out.1, HL.out.2]; first | exact hr'.below hfin | exact hr'.below hfin.drew
  subst hE0
  clear x0 x1 r0 r1 xf rf
  obtain ⟨q, hq⟩ : ∃ q, Pl.okName nm = q := ⟨_, rfl⟩
  have hnm := fun w => rName_any nm w
  rw [hq] at hnm
  have HN := Lib.hid (And.intro hnm hq); clear hnm hq
  go_wp2_with fail
  (with_reducible refine (HN.out.1 _).mono ?_)
  rintro e w2 ⟨rfl, rfl⟩
  obtain ⟨x0, x1, r0, r1, xf, rf⟩ := hb0.cells
  cases q with
  | false =>
    have HR := Lib.hid (show R = (l, F, 7) by rw [← HR0.out]; unfold Pl.askE; rw [HC.out.2.2.1, HN.out.2]; rfl)
    go_wp2_with fail
    refine bodyPost_ret (v := .tuple #[.agg #[.slice A n c, .slice A' m c'], .int .i64 7]) (by simp [results, Try.results20, go_sem, r0, r1]) rfl ?_
    have hfin := hb0.fin (.slice A n c) (.slice A' m c')
    refine ⟨_, rfl, ⟨A, c, A', c', ?_, ?_, ?_⟩, by first | exact hfin | exact hfin.drew⟩
    · rw [HR.out]; simp [HL.out.1, HL.out.2]
    · (try rw [HR.out]); simp only [HL.out.1, HL.out.2]; first | exact hr.below hfin | exact hr.below hfin.drew
    · rw [HR.out]; simp only [HL.out.1, HL.out.2]; first | exact hr'.below hfin | exact hr'.below hfin.drew
  | true =>
  have hask : Pl.askE l nm = 0 := Pl.askE_of HC.out.2.2.1 HN.out.2
  have HA := Lib.hid hask; clear hask
  by_cases hd6 : 65536 < d.length
  · have HR := Lib.hid (show R = (l, F, 6) by rw [← HR0.out, HA.out, if_neg (by simp), if_pos hd6])
    go_wp2_with fail
    refine bodyPost_ret (v := .tuple #[.agg #[.slice A n c, .slice A' m c'], .int .i64 6]) (by simp [results, Try.results20, go_sem, r0, r1]) rfl ?_
    have hfin := hb0.fin (.slice A n c) (.slice A' m c')
    refine ⟨_, rfl, ⟨A, c, A', c', ?_, ?_, ?_⟩, by first | exact hfin | exact hfin.drew⟩
    · rw [HR.out]; simp [HL.out.1, HL.out.2]
    · (try rw [HR.out]); simp only [HL.out.1, HL.out.2]; first | exact hr.below hfin | exact hr.below hfin.drew
    · rw [HR.out]; simp only [HL.out.1, HL.out.2]; first | exact hr'.below hfin | exact hr'.below hfin.drew
  go_wp2_with fail
  (with_reducible refine (HC.out.2.1 _ _ _ _ _ (hr'.below hb0.bel)).mono ?_)
  rintro e w3 ⟨v, rfl, ⟨A3, c3, rfl, hs3, hbk⟩, hb3⟩
  replace hb0 := hb0.below hb3
  have hs0 := hs3.back hb0.bel hr' hbk (by rw [← HC.out.2.2.2.2, List.length_tail, HL.out.2]; omega)
  clear x0 x1 r0 r1 xf rf hs3 hbk hb3
  obtain ⟨x0, x1, r0, r1, xf, rf⟩ := hb0.cells
  obtain ⟨t, ht⟩ : ∃ t, T.length = t := ⟨_, rfl⟩
  rw [ht] at hs0 ⊢
  have HT := Lib.hid ht; clear ht
  have hp := hb0.store A A3 n c t c3
  have hR1 : R = ((Pl.putR l g nm d).1, T, (Pl.putR l g nm d).2) := by rw [← HR0.out, HA.out, if_neg (by simp), if_neg hd6, ← HC.out.2.2.2.1, putR_nf]
  unfold Pl.putR at hR1
  have hd65 : d.length ≤ 65536 := by omega
  clear hd6
  by_cases h4 : g = 4
  · have HR := Lib.hid (show R = (l, T, 17) by rw [hR1, if_pos h4]); clear hR1
    subst h4
    go_wp2_with fail
    refine bodyPost_ret (v := .tuple #[.agg #[.slice A n c, .slice A3 t c3], .int .i64 17]) (by simp [results, Try.results20, go_sem, r0, r1]) rfl ?_
    have hfin := hp.fin (.slice A n c) (.slice A3 t c3)
    refine ⟨_, rfl, ⟨A, c, A3, c3, ?_, ?_, ?_⟩, by first | exact hfin | exact hfin.drew⟩
    · rw [HR.out]; simp [HL.out.1, HL.out.2, HT.out]
    · (try rw [HR.out]); simp only [HL.out.1, HL.out.2, HT.out]; first | exact hr.below hfin | exact hr.below hfin.drew
    · rw [HR.out]; simp only [HL.out.1, HL.out.2, HT.out]; first | exact hs0.below hfin | exact hs0.below hfin.drew
  have q4 : (g == 4) = false := beq_eq_false_iff_ne.2 h4
  by_cases h13 : g = 1 ∨ g = 3
  · have HR := Lib.hid (show R = (l, T, 0) by rw [hR1, if_neg h4, if_pos h13]); clear hR1 h4 q4
    rcases h13 with rfl | rfl
    all_goals
      go_wp2_with fail
      refine bodyPost_ret (v := .tuple #[.agg #[.slice A n c, .slice A3 t c3], .int .i64 0]) (by simp [results, Try.results20, go_sem, r0, r1]) rfl ?_
      have hfin := hp.fin (.slice A n c) (.slice A3 t c3)
      refine ⟨_, rfl, ⟨A, c, A3, c3, ?_, ?_, ?_⟩, by first | exact hfin | exact hfin.drew⟩
      · rw [HR.out]; simp [HL.out.1, HL.out.2, HT.out]
      · (try rw [HR.out]); simp only [HL.out.1, HL.out.2, HT.out]; first | exact hr.below hfin | exact hr.below hfin.drew
      · rw [HR.out]; simp only [HL.out.1, HL.out.2, HT.out]; first | exact hs0.below hfin | exact hs0.below hfin.drew
  have q1 : (g == 1) = false := beq_eq_false_iff_ne.2 (by omega)
  have q3 : (g == 3) = false := beq_eq_false_iff_ne.2 (by omega)
  rw [if_neg h4, if_neg h13] at hR1
  simp only at hR1
  obtain ⟨D, hD⟩ : ∃ D, (if g = 2 then Pl.flip d else d) = D := ⟨_, rfl⟩
  rw [hD] at hR1
  have HR := Lib.hid hR1; clear hR1 h4 h13
  have hrd := hr
  by_cases h2 : g = 2
  case' pos =>
    rw [if_pos h2] at hD
    subst hD h2
    go_wp2_with fail
    obtain ⟨W3, hW3⟩ : ∃ W, (w3.setCell ⟨w.heap.size, 0, none⟩ (.slice A n c)).setCell ⟨w.heap.size, 1, none⟩ (.slice A3 t c3) = W := ⟨_, rfl⟩
    rw [hW3] at hp ⊢
    clear hW3 x0 x1 r0 r1 xf rf hb0
    (with_reducible refine (rflipped_any _ _ hd).mono ?_)
    rintro e w4 ⟨v, rfl, rfl, hb4⟩
    replace hp := hp.below hb4
    obtain ⟨x0, x1, r0, r1, xf, rf⟩ := hp.cells
    go_wp2_with fail
    clear x0 x1 r0 r1 xf rf hb4
    generalize Pl.flip d = D at HR ⊢
  case' neg =>
    rw [if_neg h2] at hD
    subst hD
    have q2 : (g == 2) = false := beq_eq_false_iff_ne.2 h2
    go_wp2_with fail
    obtain ⟨w4, hW3⟩ : ∃ W, (w3.setCell ⟨w.heap.size, 0, none⟩ (.slice A n c)).setCell ⟨w.heap.size, 1, none⟩ (.slice A3 t c3) = W := ⟨_, rfl⟩
    rw [hW3] at hp ⊢
    clear hW3 x0 x1 r0 r1 xf rf hb0
    generalize d = D at HR ⊢
  all_goals
    (with_reducible refine (rfind_any _ _ n _ _ _ l nm _ HL.out.1 (hr.below hp.bel).rd (by omega)).mono ?_)
    rintro e w5 ⟨v, rfl, hv, hb5⟩
    unfold FindOut objV at hv
    obtain ⟨o, ho⟩ : ∃ o, (Pl.findO l nm).getD zeroO = o := ⟨_, rfl⟩
    obtain ⟨i, hi⟩ : ∃ i, (Pl.findO l nm).isSome = i := ⟨_, rfl⟩
    rw [ho, hi] at hv
    have hN : Pl.newO l nm D = ⟨nm, D, o.data, i⟩ := by
      unfold Pl.newO
      rw [hi, ← ho]
      cases Pl.findO l nm <;> rfl
    have HN2 := Lib.hid hN; clear hN ho hi
    subst hv
    replace hp := hp.below hb5
    have hb6 := (Below.refl w5.heap.size w5).alloc (Nat.le_refl _) (.cells #[.string ⟨o.name.toArray⟩, .string ⟨o.data.toArray⟩, .string ⟨o.was.toArray⟩, .bool o.had] 50)
    replace hp := hp.below hb6
    obtain ⟨x0, x1, r0, r1, xf, rf⟩ := hp.cells
    have hbd := instr_build_obj
    go_wp2_with fail
    clear x0 x1 r0 r1 xf rf
    obtain ⟨V6, hV6⟩ : ∃ V, w5.alloc (.cells #[.string ⟨o.name.toArray⟩, .string ⟨o.data.toArray⟩, .string ⟨o.was.toArray⟩, .bool o.had] 50) = V := ⟨_, rfl⟩
    rw [hV6] at hp ⊢
    clear hV6
    have hsz6 := hp.siz
    (with_reducible refine (without_at A A3 n c t c3 l nm true nm D o.data i V6 HL.out.1 (hr.below hp.bel).rd (by omega)).mono ?_)
    rintro e w7 ⟨v, rfl, ⟨A7, c7, rfl, ho7⟩, hb7⟩
    obtain ⟨P, hP⟩ : ∃ P, Pl.below l nm ++ ((if (true : Bool) then [(⟨nm, D, o.data, i⟩ : Pl.Obj)] else []) ++ Pl.above l nm) = P := ⟨_, rfl⟩
    rw [hP] at ho7 ⊢
    have hPP : Pl.putL l nm D = P := by rw [← hP, ← HN2.out]; rfl
    rw [hPP] at HR
    obtain ⟨k, hk⟩ : ∃ k, P.length = k := ⟨_, rfl⟩
    rw [hk] at ho7 ⊢
    have HK := Lib.hid hk; clear hk hP hPP
    replace hp := hp.below hb7
    obtain ⟨x0, x1, r0, r1, xf, rf⟩ := hp.cells
    go_wp2_with fail
    refine bodyPost_ret (v := .tuple #[.agg #[.slice A7 k c7, .slice A3 t c3], .int .i64 0]) (by simp [results, Try.results20, go_sem, r0, r1]) rfl ?_
    have hfin := hp.fin (.slice A7 k c7) (.slice A3 t c3)
    have hsz := hp.siz
    have hsz7 : w.heap.size + 1 < V6.heap.size + 3 := by omega
    refine ⟨_, rfl, ⟨A7, c7, A3, c3, ?_, ?_, ?_⟩, by first | exact hfin | exact hfin.drew⟩
    · rw [HR.out]; simp [HK.out, HT.out]
    · rw [HR.out]; simp only [HK.out]; exact own_sl (own_set (own_set ho7 hsz7 _ _) hsz7 _ _)
    · rw [HR.out]; simp only [HT.out]; exact hs0.below hfin
set_option maxRecDepth 100000 in
set_option maxHeartbeats 4000000 in
theorem rdrop_all (A A' : Option Addr) (c c' : Nat) (l : List Pl.Obj) (F : List Int) (nm : List UInt8) (w : World) (n m : Nat) (hl : l.length = n) (hm : F.length = m) (hr : SlAt w 4 A n c (objCs l)) (hr' : SlAt w 1 A' m c' (ints F)) (hf : Pl.Fit 1000 l F) :
    Calls Try.prog 22 #[.agg #[.slice A n c, .slice A' m c'], .string ⟨nm.toArray⟩] w (RetB (PutOut (Pl.dropA l F nm).1 (Pl.dropA l F nm).2.1 (Pl.dropA l F nm).2.2) w) := by
  have hn : n ≤ 1000 := by rw [← hl]; exact hf.1
  have hmm : m ≤ 1000 := by rw [← hm]; exact hf.2.1
  obtain ⟨E, hE⟩ : ∃ E, Pl.chk l = E := ⟨_, rfl⟩
  obtain ⟨R, hR⟩ : ∃ R, Pl.dropA l F nm = R := ⟨_, rfl⟩
  rw [hR]
  have hck := fun A A' c m c' w h => rcheck_any A A' n c m c' l w hl h (by omega)
  rw [hE] at hck
  have hft := fun A A' c c' w h => fate_any A A' n c m c' F w hm h
  obtain ⟨f, hff⟩ : ∃ f, F.headD 0 = f := ⟨_, rfl⟩
  obtain ⟨g, hgg⟩ : ∃ g, nf f = g := ⟨_, rfl⟩
  obtain ⟨T, hT⟩ : ∃ T, F.tail = T := ⟨_, rfl⟩
  unfold TakenOut at hft
  simp only [hff, hgg, hT] at hft
  unfold Pl.dropA at hR
  simp only [hff, hT] at hR
  have HC := Lib.hid (And.intro hck (And.intro hft (And.intro hE (And.intro hgg hT)))); clear hck hft hE hff hgg hT
  have HL := Lib.hid (And.intro hl hm); clear hl hm
  have HR0 := Lib.hid hR; clear hR
  go_enter Try.func22, Try.ntmps22
  go_wp2_with fail
  have hb0 := bx_new w A A' n c m c'
  obtain ⟨V, hV⟩ : ∃ V, (w.alloc (.cells #[.slice A n c, .slice A' m c'] 25)).alloc (.cells #[.slice none 0 0, .slice none 0 0] 25) = V := ⟨_, rfl⟩
  rw [hV] at hb0 ⊢
  clear hV
  (with_reducible refine (HC.out.1 _ _ _ _ _ V (hr.below hb0.bel).rd).mono ?_)
  rintro e w1 ⟨v, rfl, rfl, hb1⟩
  replace hb0 := hb0.below hb1
  obtain ⟨x0, x1, r0, r1, xf, rf⟩ := hb0.cells
  by_cases hE0 : E = 0
  rotate_left
  · have HR := Lib.hid (show R = (l, F, E) by rw [← HR0.out]; unfold Pl.askE; rw [HC.out.2.2.1, if_pos hE0, if_pos hE0])
    have q0 : ((E : Int) != 0) = true := by simp; omega
    clear hE0
    go_wp2_with fail
    refine bodyPost_ret (v := .tuple #[.agg #[.slice A n c, .slice A' m c'], .int .i64 (E : Int)]) (by simp [results, Try.results22, go_sem, r0, r1]) rfl ?_
    have hfin := hb0.fin (.slice A n c) (.slice A' m c')
    refine ⟨_, rfl, ⟨A, c, A', c', ?_, ?_, ?_⟩, by first | exact hfin | exact hfin.drew⟩
    · rw [HR.out]; simp [HL.out.1, HL.out.2]
    · (try rw [HR.out]); simp only [HL.out.1, HL.out.2]; first | exact hr.below hfin | exact hr.below hfin.drew
    · rw [HR.out]; simp only [HL.out.1, HL.out.2]; first | exact hr'.below hfin | exact hr'.below hfin.drew
  subst hE0
  clear x0 x1 r0 r1 xf rf
  obtain ⟨q, hq⟩ : ∃ q, Pl.okName nm = q := ⟨_, rfl⟩
  have hnm := fun w => rName_any nm w
  rw [hq] at hnm
  have HN := Lib.hid (And.intro hnm hq); clear hnm hq
  go_wp2_with fail
  (with_reducible refine (HN.out.1 _).mono ?_)
  rintro e w2 ⟨rfl, rfl⟩
  obtain ⟨x0, x1, r0, r1, xf, rf⟩ := hb0.cells
  cases q with
  | false =>
    have HR := Lib.hid (show R = (l, F, 7) by rw [← HR0.out]; unfold Pl.askE; rw [HC.out.2.2.1, HN.out.2]; rfl)
    go_wp2_with fail
    refine bodyPost_ret (v := .tuple #[.agg #[.slice A n c, .slice A' m c'], .int .i64 7]) (by simp [results, Try.results22, go_sem, r0, r1]) rfl ?_
    have hfin := hb0.fin (.slice A n c) (.slice A' m c')
    refine ⟨_, rfl, ⟨A, c, A', c', ?_, ?_, ?_⟩, by first | exact hfin | exact hfin.drew⟩
    · rw [HR.out]; simp [HL.out.1, HL.out.2]
    · (try rw [HR.out]); simp only [HL.out.1, HL.out.2]; first | exact hr.below hfin | exact hr.below hfin.drew
    · rw [HR.out]; simp only [HL.out.1, HL.out.2]; first | exact hr'.below hfin | exact hr'.below hfin.drew
  | true =>
  have hask : Pl.askE l nm = 0 := Pl.askE_of HC.out.2.2.1 HN.out.2
  have HA := Lib.hid hask; clear hask
  go_wp2_with fail
  (with_reducible refine (HC.out.2.1 _ _ _ _ _ (hr'.below hb0.bel)).mono ?_)
  rintro e w3 ⟨v, rfl, ⟨A3, c3, rfl, hs3, hbk⟩, hb3⟩
  replace hb0 := hb0.below hb3
  have hs0 := hs3.back hb0.bel hr' hbk (by rw [← HC.out.2.2.2.2, List.length_tail, HL.out.2]; omega)
  clear x0 x1 r0 r1 xf rf hs3 hbk hb3
  obtain ⟨x0, x1, r0, r1, xf, rf⟩ := hb0.cells
  obtain ⟨t, ht⟩ : ∃ t, T.length = t := ⟨_, rfl⟩
  rw [ht] at hs0 ⊢
  have HT := Lib.hid ht; clear ht
  have hp := hb0.store A A3 n c t c3
  have hR1 : R = ((Pl.dropR l g nm).1, T, (Pl.dropR l g nm).2) := by rw [← HR0.out, HA.out, if_neg (by simp), ← HC.out.2.2.2.1, dropR_nf]
  unfold Pl.dropR at hR1
  by_cases h4 : g = 4
  · have HR := Lib.hid (show R = (l, T, 17) by rw [hR1, if_pos h4]); clear hR1
    subst h4
    go_wp2_with fail
    refine bodyPost_ret (v := .tuple #[.agg #[.slice A n c, .slice A3 t c3], .int .i64 17]) (by simp [results, Try.results22, go_sem, r0, r1]) rfl ?_
    have hfin := hp.fin (.slice A n c) (.slice A3 t c3)
    refine ⟨_, rfl, ⟨A, c, A3, c3, ?_, ?_, ?_⟩, by first | exact hfin | exact hfin.drew⟩
    · rw [HR.out]; simp [HL.out.1, HL.out.2, HT.out]
    · (try rw [HR.out]); simp only [HL.out.1, HL.out.2, HT.out]; first | exact hr.below hfin | exact hr.below hfin.drew
    · rw [HR.out]; simp only [HL.out.1, HL.out.2, HT.out]; first | exact hs0.below hfin | exact hs0.below hfin.drew
  have q4 : (g == 4) = false := beq_eq_false_iff_ne.2 h4
  by_cases h13 : g = 1 ∨ g = 3
  · have HR := Lib.hid (show R = (l, T, 0) by rw [hR1, if_neg h4, if_pos h13]); clear hR1 h4 q4
    rcases h13 with rfl | rfl
    all_goals
      go_wp2_with fail
      refine bodyPost_ret (v := .tuple #[.agg #[.slice A n c, .slice A3 t c3], .int .i64 0]) (by simp [results, Try.results22, go_sem, r0, r1]) rfl ?_
      have hfin := hp.fin (.slice A n c) (.slice A3 t c3)
      refine ⟨_, rfl, ⟨A, c, A3, c3, ?_, ?_, ?_⟩, by first | exact hfin | exact hfin.drew⟩
      · rw [HR.out]; simp [HL.out.1, HL.out.2, HT.out]
      · (try rw [HR.out]); simp only [HL.out.1, HL.out.2, HT.out]; first | exact hr.below hfin | exact hr.below hfin.drew
      · rw [HR.out]; simp only [HL.out.1, HL.out.2, HT.out]; first | exact hs0.below hfin | exact hs0.below hfin.drew
  have q1 : (g == 1) = false := beq_eq_false_iff_ne.2 (by omega)
  have q3 : (g == 3) = false := beq_eq_false_iff_ne.2 (by omega)
  rw [if_neg h4, if_neg h13] at hR1
  have HR1 := Lib.hid hR1; clear hR1 h4 h13
  go_wp2_with fail
  obtain ⟨W3, hW3⟩ : ∃ W, (w3.setCell ⟨w.heap.size, 0, none⟩ (.slice A n c)).setCell ⟨w.heap.size, 1, none⟩ (.slice A3 t c3) = W := ⟨_, rfl⟩
  rw [hW3] at hp ⊢
  clear hW3 x0 x1 r0 r1 xf rf hb0
  (with_reducible refine (rfind_any _ _ n _ _ _ l nm _ HL.out.1 (hr.below hp.bel).rd (by omega)).mono ?_)
  rintro e w5 ⟨v, rfl, hv, hb5⟩
  unfold FindOut objV at hv
  obtain ⟨o, ho⟩ : ∃ o, (Pl.findO l nm).getD zeroO = o := ⟨_, rfl⟩
  obtain ⟨i, hi⟩ : ∃ i, (Pl.findO l nm).isSome = i := ⟨_, rfl⟩
  rw [ho, hi] at hv
  rw [hi] at HR1
  clear ho hi
  subst hv
  replace hp := hp.below hb5
  have hb6 := (Below.refl w5.heap.size w5).alloc (Nat.le_refl _) (.cells #[.string ⟨o.name.toArray⟩, .string ⟨o.data.toArray⟩, .string ⟨o.was.toArray⟩, .bool o.had] 50)
  replace hp := hp.below hb6
  obtain ⟨x0, x1, r0, r1, xf, rf⟩ := hp.cells
  cases i with
  | false =>
    have HR := Lib.hid (show R = (l, T, 9) by rw [HR1.out]; rfl)
    go_wp2_with fail
    refine bodyPost_ret (v := .tuple #[.agg #[.slice A n c, .slice A3 t c3], .int .i64 9]) (by simp [results, Try.results22, go_sem, r0, r1]) rfl ?_
    have hfin := hp.fin (.slice A n c) (.slice A3 t c3)
    refine ⟨_, rfl, ⟨A, c, A3, c3, ?_, ?_, ?_⟩, by first | exact hfin | exact hfin.drew⟩
    · rw [HR.out]; simp [HL.out.1, HL.out.2, HT.out]
    · (try rw [HR.out]); simp only [HL.out.1, HL.out.2, HT.out]; first | exact hr.below hfin | exact hr.below hfin.drew
    · rw [HR.out]; simp only [HL.out.1, HL.out.2, HT.out]; first | exact hs0.below hfin | exact hs0.below hfin.drew
  | true =>
    have HR := Lib.hid (show R = (Pl.dropL l nm, T, 0) by rw [HR1.out]; rfl)
    have hbd := instr_build_zero
    go_wp2_with fail
    clear x0 x1 r0 r1 xf rf
    obtain ⟨V6, hV6⟩ : ∃ V, w5.alloc (.cells #[.string ⟨o.name.toArray⟩, .string ⟨o.data.toArray⟩, .string ⟨o.was.toArray⟩, .bool o.had] 50) = V := ⟨_, rfl⟩
    rw [hV6] at hp ⊢
    clear hV6
    have hsz6 := hp.siz
    (with_reducible refine (without_at A A3 n c t c3 l nm false [] [] [] false V6 HL.out.1 (hr.below hp.bel).rd (by omega)).mono ?_)
    rintro e w7 ⟨v, rfl, ⟨A7, c7, rfl, ho7⟩, hb7⟩
    obtain ⟨P, hP⟩ : ∃ P, Pl.below l nm ++ ((if (false : Bool) then [(⟨[], [], [], false⟩ : Pl.Obj)] else []) ++ Pl.above l nm) = P := ⟨_, rfl⟩
    rw [hP] at ho7 ⊢
    have hPP : Pl.dropL l nm = P := by rw [← hP]; rfl
    rw [hPP] at HR
    obtain ⟨k, hk⟩ : ∃ k, P.length = k := ⟨_, rfl⟩
    rw [hk] at ho7 ⊢
    have HK := Lib.hid hk; clear hk hP hPP
    replace hp := hp.below hb7
    obtain ⟨x0, x1, r0, r1, xf, rf⟩ := hp.cells
    go_wp2_with fail
    refine bodyPost_ret (v := .tuple #[.agg #[.slice A7 k c7, .slice A3 t c3], .int .i64 0]) (by simp [results, Try.results22, go_sem, r0, r1]) rfl ?_
    have hfin := hp.fin (.slice A7 k c7) (.slice A3 t c3)
    have hsz7 : w.heap.size + 1 < V6.heap.size + 3 := by omega
    refine ⟨_, rfl, ⟨A7, c7, A3, c3, ?_, ?_, ?_⟩, by first | exact hfin | exact hfin.drew⟩
    · rw [HR.out]; simp [HK.out, HT.out]
    · rw [HR.out]; simp only [HK.out]; exact own_sl (own_set (own_set ho7 hsz7 _ _) hsz7 _ _)
    · rw [HR.out]; simp only [HT.out]; exact hs0.below hfin
end Go.Proofs.Ytnapokalopcdkaa
