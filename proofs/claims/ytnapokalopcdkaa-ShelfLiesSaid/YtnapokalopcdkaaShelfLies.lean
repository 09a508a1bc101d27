/- ShelfLies holds: whatever a shelf's fates are, once they are over it is honest. No condition. -/
import Derived.Test.YtnapokalopcdkaaShL1
import Derived.Test.YtnapokalopcdkaaShW2
import Derived.Test.YtnapokalopcdkaaOpenSh
namespace Go.Proofs.Ytnapokalopcdkaa
open Go.ChangeShapes Go.WideShapes Go.ChangeAt Go.RowKit
set_option linter.unusedVariables false
set_option linter.unusedSimpArgs false

set_option maxRecDepth 100000 in
set_option maxHeartbeats 4000000 in
theorem shelfLies_walk (A A' : Option Addr) (n c m c' : Nat) (l : List Pl.Obj) (F : List Int) (nm d : List UInt8) (w : World) (hl : l.length = n) (hF : F.length = m) (hr : SlAt w 4 A n c (objCs l)) (hr' : SlAt w 1 A' m c' (ints F)) (hn : n ≤ 140737488355328) (hm : m ≤ 140737488355328) :
    Calls Try.prog 3 #[.agg #[.slice A n c, .slice A' m c'], .string ⟨nm.toArray⟩, .string ⟨d.toArray⟩] w (RetB (fun v _ => v = .bool true) w) := by
  obtain ⟨G, hG⟩ : ∃ G, greatB l m = G := ⟨_, rfl⟩
  have hgr := fun w h => great_any A A' n c m c' l w hl h hn
  unfold greatI at hgr
  rw [hG] at hgr
  obtain ⟨E, hE⟩ : ∃ E, Pl.chk l = E := ⟨_, rfl⟩
  have hck := fun w h hn => rcheck_any A A' n c m c' l w hl h hn
  rw [hE] at hck
  obtain ⟨q, hq⟩ : ∃ q, Pl.okName nm = q := ⟨_, rfl⟩
  have hnm := fun w => rName_any nm w
  rw [hq] at hnm
  have hget := fun A A' c c' i t w h h' hf ht => get_all A A' c c' l (F.drop i) nm w n t hl ht h h' hf
  have HC := Lib.hid (And.intro hgr (And.intro hck (And.intro hnm hget))); clear hgr hck hnm hget
  have HE := Lib.hid (And.intro hG (And.intro hE (And.intro hq (And.intro hl hF)))); clear hG hE hq hl hF
  go_enter Try.func3, Try.ntmps3
  go_wp2_with fail
  have hx := shb_new w hr hr'
  have hbV := (Below.refl w.heap.size w).alloc (Nat.le_refl _) (.cells #[.slice A n c, .slice A' m c'] 25)
  obtain ⟨V, hV⟩ : ∃ V, w.alloc (.cells #[.slice A n c, .slice A' m c'] 25) = V := ⟨_, rfl⟩
  rw [hV] at hx hbV ⊢
  clear hV hr hr'
  (with_reducible refine (HC.out.1 V hx.obj.rd).mono ?_)
  rintro e w1 ⟨v, rfl, rfl, hb1⟩
  have hx1 := hx.below hb1
  have hbw1 := hbV.trans (hb1.mono hbV.size)
  clear hx hb1 hbV
  cases G with
  | true =>
    go_wp2_with fail
    (with_reducible refine (awake_any _).mono ?_)
    rintro e w2 ⟨v, rfl, rfl, hb2⟩
    go_wp2_with fail
    go_ret
    exact ⟨_, rfl, rfl, hbw1.trans (hb2.mono hbw1.size)⟩
  | false =>
  by_cases hd5 : 500 < d.length
  · go_wp2_with fail
    (with_reducible refine (awake_any _).mono ?_)
    rintro e w2 ⟨v, rfl, rfl, hb2⟩
    go_wp2_with fail
    go_ret
    exact ⟨_, rfl, rfl, hbw1.trans (hb2.mono hbw1.size)⟩
  obtain ⟨g1, g2, g3⟩ := great_of HE.out.1
  have hn30 : n ≤ 30 := by rw [← HE.out.2.2.2.1]; exact g1
  have HG := Lib.hid g3; clear g1 g3
  have x0 := hx1.c0
  have x1 := hx1.c1
  go_wp2_with fail
  (with_reducible refine (HC.out.2.1 w1 hx1.obj.rd (by omega)).mono ?_)
  rintro e w2 ⟨v, rfl, rfl, hb2⟩
  have hx2 := hx1.below hb2
  have hbw2 := hbw1.trans (hb2.mono hbw1.size)
  clear hx1 hb2 hbw1 x0 x1
  by_cases hE0 : E = 0
  rotate_left
  · have hne : ((E : Int) != 0) = true := by simp; omega
    go_wp2_with fail
    (with_reducible refine (awake_any _).mono ?_)
    rintro e w3 ⟨v, rfl, rfl, hb3⟩
    go_wp2_with fail
    go_ret
    exact ⟨_, rfl, rfl, hbw2.trans (hb3.mono hbw2.size)⟩
  subst hE0
  go_wp2_with fail
  (with_reducible refine (HC.out.2.2.1 _).mono ?_)
  rintro e w3 ⟨rfl, rfl⟩
  cases q with
  | false =>
    go_wp2_with fail
    (with_reducible refine (awake_any _).mono ?_)
    rintro e w3 ⟨v, rfl, rfl, hb3⟩
    go_wp2_with fail
    go_ret
    exact ⟨_, rfl, rfl, hbw2.trans (hb3.mono hbw2.size)⟩
  | true =>
  have x0 := hx2.c0
  have x1 := hx2.c1
  go_wp2_with fail
  clear x0 x1
  have hask := Lib.hid (show Pl.askE l nm = 0 from Pl.askE_of HE.out.2.1 HE.out.2.2.1)
  go_loopw [8] (fun i wr => ∃ (j A1 c1 A1' c1' : _), (j : Nat) ≤ m ∧ i = .int .i64 (j : Nat) ∧ ShB w.heap.size l (F.drop j) A1 n c1 A1' (m - j) c1' wr ∧ Below w.heap.size w wr) (fun i _ => m - (intOf i).toNat)
  case atStart => exact ⟨0, A, c, A', c', by omega, rfl, hx2, hbw2⟩
  case round =>
    clear hx2 hbw2
    obtain ⟨j, A1, c1, A1', c1', hj, rfl, hx, hbw⟩ := hrel
    have x0 := hx.c0
    have x1 := hx.c1
    have xf := hx.fz
    by_cases hjm : j < m
    · go_wp2_with fail
      (with_reducible refine (HC.out.2.2.2 A1 A1' c1 c1' j (m - j) wr hx.obj hx.fat (Pl.Fit.mk (by rw [HE.out.2.2.2.1]; omega) (by rw [List.length_drop, HE.out.2.2.2.2]; omega) (fun o ho => by have := (HG.out o ho).2.1; omega)) (by rw [List.length_drop, HE.out.2.2.2.2])).mono ?_)
      rintro e w4 ⟨v, rfl, ⟨A2, c2, A2', c2', rfl, ho2, hf2⟩, hb4⟩
      have e1 : (Pl.getA l (F.drop j) nm).1 = F.drop (j + 1) := by
        unfold Pl.getA
        rw [if_neg (by rw [hask.out]; simp)]
        show (F.drop j).tail = _
        rw [List.tail_drop]
      have e2 : (F.drop (j + 1)).length = m - (j + 1) := by rw [List.length_drop, HE.out.2.2.2.2]
      rw [e1, e2] at hf2 ⊢
      rw [HE.out.2.2.2.1] at ho2 ⊢
      obtain ⟨b, hb⟩ : ∃ b, (Pl.getA l (F.drop j) nm).2.1 = b := ⟨_, rfl⟩
      obtain ⟨er, her⟩ : ∃ er, (Pl.getA l (F.drop j) nm).2.2 = er := ⟨_, rfl⟩
      obtain ⟨t, ht⟩ : ∃ t, m - (j + 1) = t := ⟨_, rfl⟩
      have htt : t + (j + 1) = m := by omega
      have HT := Lib.hid htt; clear htt
      rw [ht] at hf2 ⊢
      rw [hb, her]
      clear hb her e1 e2 ht
      have hb5 := hb4.alloc hb4.size (.cells #[.slice A2 n c2, .slice A2' t c2'] 25)
      have hx5 := hx.below hb5
      have hx6 := hx5.store (ho2.alloc (.cells #[.slice A2 n c2, .slice A2' t c2'] 25)) (hf2.alloc _)
      have hbw6 := ((hbw.trans (hb5.mono hbw.size)).setCell (p := ⟨w.heap.size, 0, none⟩) (Nat.le_refl _) (.slice A2 n c2)).setCell (p := ⟨w.heap.size, 1, none⟩) (Nat.le_refl _) (.slice A2' t c2')
      clear x0 x1 xf
      have x0 := hx5.c0
      have x1 := hx5.c1
      have xf := hx5.fz
      go_wp2_with fail
      go_roundw
      case rel => exact ⟨j + 1, A2, c2, A2', c2', by omega, by go_num, by have := HT.out; rw [show m - (j + 1) = t by omega]; exact hx6, hbw6⟩
      case measure => simp [intOf]; omega
    · obtain rfl : j = m := by omega
      rw [Nat.sub_self, List.drop_eq_nil_of_le (by rw [HE.out.2.2.2.2]; exact Nat.le_refl _)] at hx
      rw [Nat.sub_self] at x1
      obtain ⟨r, hr0⟩ := Pl.nms_first (l := l) (nm := nm) (d := d) (f := 0) (by decide)
      obtain ⟨P, hP⟩ : ∃ P, Pl.putL l nm d = P := ⟨_, rfl⟩
      have hck := Pl.chk_put HE.out.2.1 (nm := nm) (d := d) HE.out.2.2.1 (by omega)
      have hfn := Pl.find_put_same ((Pl.chk_iff l).1 HE.out.2.1).1 nm d
      have hpl := Pl.put_len1 (l := l) nm d
      have hpd := Pl.put_data (l := l) (nm := nm) (d := d) (k := 1000) (fun o ho => by have := (HG.out o ho).2.1; omega) (by omega)
      have e1 : Pl.putA l [] nm d = (P, [], 0) := by
        unfold Pl.putA
        rw [if_neg (by rw [hask.out]; simp), if_neg (by omega), ← hP]; rfl
      rw [hP] at hck hfn hpl hpd hr0
      have hap : Pl.askE P nm = 0 := Pl.askE_of hck HE.out.2.2.1
      have e2 : Pl.namesA P [] nm = ([], nm :: r, 0) := by
        unfold Pl.namesA
        rw [if_neg (by rw [hck]; simp), ← hr0]; rfl
      have e3 : Pl.getA P [] nm = ([], d, 0) := by
        unfold Pl.getA
        rw [if_neg (by rw [hap]; simp)]
        unfold Pl.getR
        rw [if_neg (by decide), hfn]
        rfl
      have hpl2 : P.length ≤ 31 := by rw [HE.out.2.2.2.1] at hpl; omega
      obtain ⟨k, hk⟩ : ∃ k, P.length = k := ⟨_, rfl⟩
      have hput := put_all A1 A1' c1 c1' l [] nm d wr n 0 HE.out.2.2.2.1 rfl hx.obj hx.fat (Pl.Fit.mk (by rw [HE.out.2.2.2.1]; omega) (by simp) (fun o ho => by have := (HG.out o ho).2.1; omega)) (by omega)
      have hnam := fun A A' c c' w h h' => names_all A A' c c' P [] nm w k 0 hk rfl h h' (Pl.Fit.mk (by omega) (by simp) (fun o ho => by have := hpd o ho; omega))
      have hget := fun A A' c c' w h h' => get_all A A' c c' P [] nm w k 0 hk rfl h h' (Pl.Fit.mk (by omega) (by simp) (fun o ho => by have := hpd o ho; omega))
      rw [e1] at hput
      rw [e2] at hnam
      rw [e3] at hget
      have HD := Lib.hid (And.intro hput (And.intro hnam (And.intro hget hk))); clear hput hnam hget e1 e2 e3 hr0 hP hck hfn hpl hpd hap hpl2 hk
      go_wp2_with fail
      (with_reducible refine HD.out.1.mono ?_)
      rintro e w4 ⟨v, rfl, ⟨A2, c2, A2', c2', rfl, ho2, hf2⟩, hb4⟩
      simp only [HD.out.2.2.2, List.length_nil] at ho2 hf2 ⊢
      have hx4 := hx.below hb4
      have hbw4 := hbw.trans (hb4.mono hbw.size)
      clear x0 x1 xf hx
      go_wp2_with fail
      have hy := shb_new w4 ho2 hf2
      have hb5 := (Below.refl w4.heap.size w4).alloc (Nat.le_refl _) (.cells #[.slice A2 k c2, .slice A2' 0 c2'] 25)
      obtain ⟨V5, hV5⟩ : ∃ V, w4.alloc (.cells #[.slice A2 k c2, .slice A2' 0 c2'] 25) = V := ⟨_, rfl⟩
      rw [hV5] at hy hb5 ⊢
      clear hV5 ho2 hf2
      have hx5 := hx4.below hb5
      have hbw5 := hbw4.trans (hb5.mono hbw4.size)
      (with_reducible refine (HD.out.2.1 _ _ _ _ _ hy.obj hy.fat).mono ?_)
      rintro e w6 ⟨v, rfl, ⟨A3, c3, A3', c3', An, cn, rfl, ho3, hf3, hs3⟩, hb6⟩
      simp only [HD.out.2.2.2, List.length_nil, List.length_cons] at ho3 hf3 hs3 ⊢
      have hx6 := hx5.below hb6
      have hbw6 := hbw5.trans (hb6.mono hbw5.size)
      go_wp2_with fail
      have hz := shb_new w6 ho3 hf3
      have hb7 := (Below.refl w6.heap.size w6).alloc (Nat.le_refl _) (.cells #[.slice A3 k c3, .slice A3' 0 c3'] 25)
      obtain ⟨V7, hV7⟩ : ∃ V, w6.alloc (.cells #[.slice A3 k c3, .slice A3' 0 c3'] 25) = V := ⟨_, rfl⟩
      rw [hV7] at hz hb7 ⊢
      clear hV7 ho3 hf3
      have hx7 := hx6.below hb7
      have hs7 := hs3.below hb7
      have hbw7 := hbw6.trans (hb7.mono hbw6.size)
      (with_reducible refine (HD.out.2.2.1 _ _ _ _ _ hz.obj hz.fat).mono ?_)
      rintro e w8 ⟨v, rfl, ⟨A4, c4, A4', c4', rfl, ho4, hf4⟩, hb8⟩
      simp only [HD.out.2.2.2, List.length_nil] at ho4 hf4 ⊢
      have hb9 := hb8.alloc hb8.size (.cells #[.slice A4 k c4, .slice A4' 0 c4'] 25)
      have hx9 := hx7.below hb9
      have hs9 := hs7.below hb9
      have hbw9 := hbw7.trans (hb9.mono hbw7.size)
      obtain ⟨b, off, rfl, hltb, hcell⟩ := hs9.rd.all (by omega)
      have hc0 := hcell 0 (by simp [strs])
      rw [strs_get _ 0 (by simp)] at hc0
      simp only [List.getElem_cons_zero, Nat.add_zero] at hc0
      have x0 := hx9.c0
      have x1 := hx9.c1
      obtain ⟨rl, hrl⟩ : ∃ k, r.length = k := ⟨_, rfl⟩
      rw [hrl]
      have hlt0 : (0 : Int) < (rl : Int) + 1 := by omega
      clear hcell hltb hs3 hs7 hs9 hrl
      go_wp2_with fail
      (with_reducible refine (awake_any _).mono ?_)
      rintro e w10 ⟨v, rfl, rfl, hb10⟩
      go_wp2_with fail
      go_ret
      exact ⟨_, rfl, rfl, hbw9.trans (hb10.mono hbw9.size)⟩
-- FRAME
set_option maxRecDepth 100000 in
theorem shelfLies_lifted (os : Os) (started : os.Started) (H : Type) (enc : TypeId × Value → H) :
    ReturnsInHanded {} Try.checked os 3 .any (Rows.shelfLiesSpec.pre6 enc Try.prog Try.f3 Rows.shelfLiesRow.domain false) (Rows.shelfLiesSpec.post enc Try.prog Try.f3 false true false false) := by
  refine returnsInHanded_of_change_sized (C := Try.checked) own started (by kernel_rfl) Try.func3
    (ChangeSpec.witness6 (enc := enc) (C := Try.checked) false ⟨#[], #[.agg #[.slice none 0 0, .slice none 0 0], .string ⟨#[]⟩, .string ⟨#[]⟩], []⟩ 8 (by kernel_rfl) (by kernel_rfl) (by kernel_rfl) (by kernel_rfl)) ?_
  intro W base args ds gs before hval0 hW hcnd hsz0 _
  have hval : ∀ (j : Nat) t v, Try.f3.params[j]? = some t → args[j]? = some v → Value.okWide Try.prog W .any base t v := hval0
  have hW' := hW
  obtain ⟨p, q, hA0, hV, rfl, hfz, hnd⟩ := hW
  have hA : DataW.TrodAll enc Try.prog W 0 (fun _ => true) true Try.f3.params.toList args.toList ds p := hA0
  have hsz : (DataW.weightsEach Try.prog (Try.f3.params.toList ++ Rows.shelfLiesSpec.plain.varTypes Try.prog) (ds ++ gs)).all (· ≤ reachBytes) = true := hsz0
  rw [Try.params3] at hA hval hsz
  obtain ⟨v0, vs0, d0, ds0, p0, q0, hargs, rfl, rfl, h0, r0⟩ := trodAll_cons hA
  obtain ⟨v1, vs1, d1, ds1, p1, q1, rfl, rfl, rfl, h1, r1⟩ := trodAll_cons r0
  obtain ⟨v2, vs2, d2, ds2, p2, q2, rfl, rfl, rfl, h2, r2⟩ := trodAll_cons r1
  obtain ⟨rfl, rfl, rfl⟩ := trodAll_nil r2
  obtain rfl : args = #[v0, v1, v2] := by cases args; simp_all
  obtain ⟨rfl, rfl⟩ := trodVars_none hV
  have k0 := h0
  have lt0 : ∀ x ∈ p0, x.block < W.heap.size := by obtain ⟨m, hm⟩ := k0; exact DataW.trod_lt m _ _ _ hm
  have hz0 : ∀ m ∈ d0.weights Try.prog 25, m ≤ reachBytes := fun m hm => by
    have h1 := List.all_eq_true.1 hsz m (DataW.weights_mem_each (j := 0) rfl rfl m hm)
    simpa using h1
  obtain ⟨A0, B0, n0, c0, m0, cc0, l0, F0, rfl, eA0, eB0, eC0, eD0, eE0, eF0⟩ := open_shelf (hval 0 25 v0 rfl rfl) h0 hz0
  have k1 := h1
  have lt1 : ∀ x ∈ p1, x.block < W.heap.size := by obtain ⟨m, hm⟩ := k1; exact DataW.trod_lt m _ _ _ hm
  have hz1 : ∀ m ∈ d1.weights Try.prog 9, m ≤ reachBytes := fun m hm => by
    have h1 := List.all_eq_true.1 hsz m (DataW.weights_mem_each (j := 1) rfl rfl m hm)
    simpa using h1
  obtain ⟨l1, rfl, eA1⟩ := open_str (hval 1 9 v1 rfl rfl) h1 hz1
  have k2 := h2
  have lt2 : ∀ x ∈ p2, x.block < W.heap.size := by obtain ⟨m, hm⟩ := k2; exact DataW.trod_lt m _ _ _ hm
  have hz2 : ∀ m ∈ d2.weights Try.prog 9, m ≤ reachBytes := fun m hm => by
    have h1 := List.all_eq_true.1 hsz m (DataW.weights_mem_each (j := 2) rfl rfl m hm)
    simpa using h1
  obtain ⟨l2, rfl, eA2⟩ := open_str (hval 2 9 v2 rfl rfl) h2 hz2
  clear hA0 hval0 hsz0
  refine (shelfLies_walk A0 B0 n0 c0 m0 cc0 l0 F0 l1 l2 W eA0 eB0 eC0 eD0 eE0 eF0  ).mono fun e W' ⟨v, he, hv, bel⟩ => ?_
  subst he hv
  exact ⟨_, rfl, _, _, _, [], _, [], hW', trodAll_mk1 (shut_bool Try.underlying4 _), (trodAll_cons_mk (Below.trod laidOut (by kernel_rfl) (of_decide_eq_true (by kernel_rfl)) k0 bel lt0) (trodAll_cons_mk (Below.trod laidOut (by kernel_rfl) (of_decide_eq_true (by kernel_rfl)) k1 bel lt1) (trodAll_cons_mk (Below.trod laidOut (by kernel_rfl) (of_decide_eq_true (by kernel_rfl)) k2 bel lt2) trodAll_mk0))), rfl, bel.frame _, fun h => by cases h⟩

theorem shelfLies_holds : Rows.ShelfLiesSaid :=
  OpenClaim.holds_of_wide 3 Try.f3 rfl rfl rfl rfl rfl rfl rfl ⟨rfl, rfl, rfl, rfl, rfl⟩ rfl rfl rfl rfl rfl (by kernel_rfl) Try.func3 (by kernel_rfl)
    (of_decide_eq_true (by kernel_rfl)) (by unfold Func.isWrapper; first | (rw [if_pos (by decide +kernel)]; kernel_rfl) | (rw [if_neg (by decide +kernel)]; exact ⟨rfl, rfl⟩))
    (fun os started H enc _ => shelfLies_lifted os started H enc)
#print axioms shelfLies_holds
end Go.Proofs.Ytnapokalopcdkaa
