/- ShelfPlays holds: whatever is called of any shelf, one behind the other, each answer, and the shelf then, are the document's; one that may be may be still. No condition. -/
import Derived.Test.YtnapokalopcdkaaShAct
import Derived.Test.YtnapokalopcdkaaShR7
import Derived.Test.YtnapokalopcdkaaShW2
import Derived.Test.YtnapokalopcdkaaOpenSh
namespace Go.Proofs.Ytnapokalopcdkaa
open Go.ChangeShapes Go.WideShapes Go.ChangeAt Go.RowKit
set_option linter.unusedVariables false
set_option linter.unusedSimpArgs false

/-- What stays in a row of calls. -/
structure Pl.InvP (e0 j : Nat) (l : List Pl.Obj) (F : List Int) : Prop where
  chk : e0 = 0 → Pl.chk l = 0
  len : l.length ≤ 30 + j
  dat : ∀ o ∈ l, o.data.length ≤ 1000
  fat : F.length ≤ 100
section
variable {e0 j : Nat} {l : List Pl.Obj} {F : List Int} {nm d : List UInt8}
theorem Pl.InvP.fit (h : Pl.InvP e0 j l F) (hj : j ≤ 100) : Pl.Fit 1000 l F := ⟨by have := h.len; omega, by have := h.fat; omega, fun o ho => by have := h.dat o ho; omega⟩
theorem Pl.InvP.step (h : Pl.InvP e0 j l F) : Pl.InvP e0 (j + 1) l F := ⟨h.chk, by have := h.len; omega, h.dat, h.fat⟩
theorem Pl.InvP.tail (h : Pl.InvP e0 j l F) : Pl.InvP e0 (j + 1) l F.tail := ⟨h.chk, by have := h.len; omega, h.dat, by have := h.fat; rw [List.length_tail]; omega⟩
theorem Pl.invP_put (h : Pl.InvP e0 j l F) (hd : d.length ≤ 500) : Pl.InvP e0 (j + 1) (Pl.putA l F nm d).1 (Pl.putA l F nm d).2.1 := by
  unfold Pl.putA
  split
  · exact h.step
  · next ha =>
    rw [if_neg (by omega)]
    obtain ⟨hc, hn⟩ := Pl.askE_ok (Nat.eq_zero_of_not_pos (fun h' => ha (Nat.pos_iff_ne_zero.1 h')))
    simp only
    have key : ∀ d : List UInt8, d.length ≤ 500 → Pl.InvP e0 (j + 1) (Pl.putL l nm d) F.tail := fun d hd =>
      ⟨fun _ => Pl.chk_put hc hn (by omega), by have := Pl.put_len1 (l := l) nm d; have := h.len; omega, Pl.put_data h.dat (by omega), h.tail.fat⟩
    unfold Pl.putR
    split
    · exact h.tail
    · split
      · exact h.tail
      · simp only
        split
        · exact key _ (by rw [Pl.flip_len]; exact hd)
        · exact key _ hd
theorem Pl.invP_get (h : Pl.InvP e0 j l F) : Pl.InvP e0 (j + 1) l (Pl.getA l F nm).1 := by
  unfold Pl.getA
  split
  · exact h.step
  · exact h.tail
theorem Pl.invP_names (h : Pl.InvP e0 j l F) : Pl.InvP e0 (j + 1) l (Pl.namesA l F nm).1 := by
  unfold Pl.namesA
  split
  · exact h.step
  · exact h.tail
theorem Pl.invP_drop (h : Pl.InvP e0 j l F) : Pl.InvP e0 (j + 1) (Pl.dropA l F nm).1 (Pl.dropA l F nm).2.1 := by
  unfold Pl.dropA
  split
  · exact h.step
  · next ha =>
    obtain ⟨hc, hn⟩ := Pl.askE_ok (Nat.eq_zero_of_not_pos (fun h' => ha (Nat.pos_iff_ne_zero.1 h')))
    simp only
    unfold Pl.dropR
    split
    · exact h.tail
    · split
      · exact h.tail
      · split
        · exact ⟨fun _ => Pl.chk_drop hc nm, by have := Pl.drop_len l nm; have := h.len; simp only; omega, Pl.drop_data h.dat, h.tail.fat⟩
        · exact h.tail
end
/-- Another shelf's variable is as it was behind a store into one. -/
theorem ShB.other {B B2 : Nat} {l l2 : List Pl.Obj} {F F2 : List Int} {A A2 : Option Addr} {n c n2 c2 : Nat} {A' A2' : Option Addr} {m c' m2 c2' : Nat} {W : World} (h : ShB B l F A n c A' m c' W) (h2 : ShB B2 l2 F2 A2 n2 c2 A2' m2 c2' W) (hne : B2 ≠ B)
    (A3 A3' : Option Addr) (n3 c3 m3 c3' : Nat) : ShB B2 l2 F2 A2 n2 c2 A2' m2 c2' ((W.setCell ⟨B, 0, none⟩ (.slice A3 n3 c3)).setCell ⟨B, 1, none⟩ (.slice A3' m3 c3')) :=
  ⟨(Below.heap_setCell _ _ _ _ hne).trans ((Below.heap_setCell _ _ _ _ hne).trans h2.box), h.stays h2.obj (by omega) (objCs_notSl _) _ _ _ _ _ _, h.stays h2.fat (by omega) (ints_notSl _) _ _ _ _ _ _⟩
set_option maxRecDepth 100000 in
set_option maxHeartbeats 16000000 in
theorem shelfPlays_walk (A A' : Option Addr) (n c m c' : Nat) (l : List Pl.Obj) (F : List Int) (A0 : Option Addr) (n0 c0 : Nat) (la : List Pl.Act) (w : World) (hl : l.length = n) (hF : F.length = m) (hr : SlAt w 4 A n c (objCs l)) (hr' : SlAt w 1 A' m c' (ints F)) (hn : n ≤ 140737488355328) (hm : m ≤ 140737488355328)
    (hla : la.length = n0) (hra : Rd w 3 A0 n0 (actCs la)) (hn0 : n0 ≤ 140737488355328) :
    Calls Try.prog 6 #[.agg #[.slice A n c, .slice A' m c'], .slice A0 n0 c0] w (RetB (fun v _ => v = .bool true) w) := by
  obtain ⟨GA, hGA⟩ : ∃ G, Pl.greatA la = G := ⟨_, rfl⟩
  have hga := fun w h => greatA_any A0 n0 c0 la w hla h hn0
  rw [hGA] at hga
  have HA := Lib.hid (And.intro hga (And.intro hGA hla)); clear hga hGA hla
  obtain ⟨G, hG⟩ : ∃ G, greatB l m = G := ⟨_, rfl⟩
  have hgr := fun w h => great_any A A' n c m c' l w hl h hn
  unfold greatI at hgr
  rw [hG] at hgr
  obtain ⟨E, hE⟩ : ∃ E, Pl.chk l = E := ⟨_, rfl⟩
  have hck := fun w h hn => rcheck_any A A' n c m c' l w hl h hn
  rw [hE] at hck
  have HC := Lib.hid (And.intro hgr hck); clear hgr hck
  have HE := Lib.hid (And.intro hG (And.intro hE (And.intro hl hF))); clear hG hE hl hF
  go_enter Try.func6, Try.ntmps6
  go_wp2_with fail
  have hx := shb_new w hr hr'
  have hbw := (Below.refl w.heap.size w).alloc (Nat.le_refl _) (.cells #[.slice A n c, .slice A' m c'] 25)
  obtain ⟨V, hV⟩ : ∃ V, w.alloc (.cells #[.slice A n c, .slice A' m c'] 25) = V := ⟨_, rfl⟩
  rw [hV] at hx hbw ⊢
  clear hV hr hr'
  (with_reducible refine (HC.out.1 V hx.obj.rd).mono ?_)
  rintro e w1 ⟨v, rfl, rfl, hb1⟩
  replace hx := hx.below hb1
  replace hbw := hbw.trans (hb1.mono hbw.size)
  clear hb1
  cases G with
  | true =>
    go_wp2_with fail
    (with_reducible refine (awake_any _).mono ?_)
    rintro e wa9 ⟨v, rfl, rfl, hba9⟩
    go_wp2_with fail
    go_ret
    exact ⟨_, rfl, rfl, hbw.trans (hba9.mono hbw.size)⟩
  | false =>
  obtain ⟨g1, g2, g3⟩ := great_of HE.out.1
  have hn30 : n ≤ 30 := by rw [← HE.out.2.2.1]; exact g1
  have HG := Lib.hid g3; clear g1 g3
  go_wp2_with fail
  (with_reducible refine (HA.out.1 _ (by exact hra.below hbw)).mono ?_)
  rintro e w2 ⟨rfl, rfl⟩
  cases GA with
  | true =>
    go_wp2_with fail
    (with_reducible refine (awake_any _).mono ?_)
    rintro e wa9 ⟨v, rfl, rfl, hba9⟩
    go_wp2_with fail
    go_ret
    exact ⟨_, rfl, rfl, hbw.trans (hba9.mono hbw.size)⟩
  | false =>
  obtain ⟨ga1, ga2⟩ := Pl.greatA_of HA.out.2.1
  have hn20 : n0 ≤ 20 := by rw [← HA.out.2.2]; exact ga1
  have HGA := Lib.hid ga2; clear ga1 ga2
  have x0 := hx.c0
  have x1 := hx.c1
  have hd1 : w.heap.size < w1.heap.size := hx.lt
  go_wp2_with fail
  clear x0 x1
  have hy := shb_new w1 hx.obj hx.fat
  have hb2 := (Below.refl w1.heap.size w1).alloc (Nat.le_refl _) (.cells #[.slice A n c, .slice A' m c'] 25)
  replace hx := hx.below hb2
  replace hbw := hbw.trans (hb2.mono hbw.size)
  clear hb2
  obtain ⟨B2, hB2⟩ : ∃ B, w1.heap.size = B := ⟨_, rfl⟩
  obtain ⟨V2, hV2⟩ : ∃ V, w1.alloc (.cells #[.slice A n c, .slice A' m c'] 25) = V := ⟨_, rfl⟩
  rw [hB2] at hy hd1 ⊢
  rw [hV2] at hx hy hbw ⊢
  clear hV2 hB2
  (with_reducible refine (HC.out.2 V2 hx.obj.rd (by omega)).mono ?_)
  rintro e w2 ⟨v, rfl, rfl, hb2⟩
  replace hx := hx.below hb2
  replace hy := hy.below hb2
  replace hbw := hbw.trans (hb2.mono hbw.size)
  clear hb2 w1 V V2
  obtain ⟨fitB, hfit⟩ : ∃ b, decide (E = 0) = b := ⟨_, rfl⟩
  have hfit' : ((E : Int) == 0) = fitB := by
    rw [← hfit]
    by_cases h0 : E = 0
    · subst h0; rfl
    · rw [decide_eq_false h0, beq_eq_false_iff_ne]; omega
  have HI := Lib.hid (show Pl.InvP E 0 l F from ⟨fun h => HE.out.2.1.trans h, by rw [HE.out.2.2.1]; omega, fun o ho => by have := (HG.out o ho).2.1; omega, by rw [HE.out.2.2.2]; exact g2⟩)
  have HFT := Lib.hid hfit; clear hfit
  go_wp2_with fail
  clear hfit'
  go_loopw [7] (fun i wr => ∃ (j : Nat) (ls : List Pl.Obj) (Fs : List Int) (n1 m1 : Nat) (A1 : Option Addr) (c1 : Nat) (A1' : Option Addr) (c1' : Nat) (A2 : Option Addr) (c2 : Nat) (A2' : Option Addr) (c2' : Nat), j ≤ n0 ∧ i = .int .i64 (j : Nat) ∧ ShB w.heap.size ls Fs A1 n1 c1 A1' m1 c1' wr ∧ ShB B2 ls Fs A2 n1 c2 A2' m1 c2' wr ∧ Hid (Pl.InvP E j ls Fs ∧ ls.length = n1 ∧ Fs.length = m1) ∧ Below w.heap.size w wr) (fun i _ => n0 - (intOf i).toNat)
  case atStart => exact ⟨0, l, F, n, m, A, c, A', c', A, c, A', c', by omega, rfl, hx, hy, ⟨HI.out, HE.out.2.2.1, HE.out.2.2.2⟩, hbw⟩
  case round =>
    clear hx hy hbw
    obtain ⟨j, ls, Fs, n1, m1, A1, c1, A1', c1', A2, c2, A2', c2', hj, rfl, hx, hy, HJ, hbw⟩ := hrel
    have hra' := hra.below hbw
    by_cases hjn : j < n0
    · have hjl : j < la.length := by rw [HA.out.2.2]; exact hjn
      obtain ⟨b, off, rfl, hlt, p0, p1, p2⟩ := hra'.act HA.out.2.2 hjn
      obtain ⟨y, hy0⟩ : ∃ y, la[j] = y := ⟨_, rfl⟩
      have hyb := HGA.out la[j] (List.getElem_mem hjl)
      rw [hy0] at p0 p1 p2 hyb
      obtain ⟨ak, an, ad⟩ := y
      simp only at p0 p1 p2 hyb
      obtain ⟨hyb1, hyb2⟩ := hyb
      clear hy0
      have hm1 : m1 ≤ 100 := by have := HJ.out.1.fat; rw [HJ.out.2.2] at this; exact this
      have hn1 : n1 ≤ 60 := by have := HJ.out.1.len; rw [HJ.out.2.1] at this; omega
      have hb5 := (((Below.refl wr.heap.size wr).alloc (Nat.le_refl _) (.cells #[.int .i64 ak, .string ⟨an.toArray⟩, .string ⟨ad.toArray⟩] 46)).alloc (by simp) (.cells #[] 9)).alloc (by simp; omega) (.cells #[] 9)
      have HB := Lib.hid (show (((wr.alloc (.cells #[.int .i64 ak, .string ⟨an.toArray⟩, .string ⟨ad.toArray⟩] 46)).alloc (.cells #[] 9)).alloc (.cells #[] 9)).heap[wr.heap.size]? = some (.cells #[.int .i64 ak, .string ⟨an.toArray⟩, .string ⟨ad.toArray⟩] 46 (0, 0)) from (Below.heap_alloc _ _ _ (by simp; omega)).trans ((Below.heap_alloc _ _ _ (by simp)).trans (heap_alloc_new wr _)))
      have hN1 := sl_nil (((wr.alloc (.cells #[.int .i64 ak, .string ⟨an.toArray⟩, .string ⟨ad.toArray⟩] 46)).alloc (.cells #[] 9)).alloc (.cells #[] 9)) ⟨wr.heap.size + 1, 0, none⟩
      have hN2 := sl_nil (((wr.alloc (.cells #[.int .i64 ak, .string ⟨an.toArray⟩, .string ⟨ad.toArray⟩] 46)).alloc (.cells #[] 9)).alloc (.cells #[] 9)) ⟨wr.heap.size + 1 + 1, 0, none⟩
      by_cases k0 : ak = 0
      · subst k0
        have x0 := hx.c0
        have x1 := hx.c1
        have xl := hx.lt
        have xl1 : w.heap.size < wr.heap.size + 1 := by omega
        have xl2 : w.heap.size < wr.heap.size + 1 + 1 := by omega
        go_wp2_with fail
        replace hx := hx.below hb5
        replace hy := hy.below hb5
        replace hbw := hbw.trans (hb5.mono hbw.size)
        clear x0 x1 xl1 xl2 hb5
        obtain ⟨W5, hW5⟩ : ∃ V, (((wr.alloc (.cells #[.int .i64 0, .string ⟨an.toArray⟩, .string ⟨ad.toArray⟩] 46)).alloc (.cells #[] 9)).alloc (.cells #[] 9)) = V := ⟨_, rfl⟩
        rw [hW5] at hx hy hbw HB hN1 hN2 ⊢
        clear hW5
        obtain ⟨B5, hB5⟩ : ∃ V, wr.heap.size = V := ⟨_, rfl⟩
        rw [hB5] at xl HB ⊢
        obtain ⟨l2, hl2⟩ : ∃ x, (Pl.putA ls Fs an ad).1 = x := ⟨_, rfl⟩
        obtain ⟨F2, hF2⟩ : ∃ x, (Pl.putA ls Fs an ad).2.1 = x := ⟨_, rfl⟩
        obtain ⟨n2, hn2⟩ : ∃ x, l2.length = x := ⟨_, rfl⟩
        obtain ⟨m2, hm2⟩ : ∃ x, F2.length = x := ⟨_, rfl⟩
        have hp1 := put_all A1 A1' c1 c1' ls Fs an ad W5 n1 m1 HJ.out.2.1 HJ.out.2.2 hx.obj hx.fat (HJ.out.1.fit (by omega)) (by omega)
        have hp2 := fun W h h' => rput_all A2 A2' c2 c2' ls Fs an ad W n1 m1 HJ.out.2.1 HJ.out.2.2 h h' (HJ.out.1.fit (by omega)) (by omega)
        have hinv := Pl.invP_put (nm := an) HJ.out.1 hyb2
        rw [hF2] at hp1 hp2 hinv
        rw [hl2] at hp1 hp2 hinv
        generalize (Pl.putA ls Fs an ad).2.2 = gc at hp1 hp2
        have HJ2 := Lib.hid (And.intro hinv (And.intro hn2 hm2)); clear hinv hF2 hl2
        have HP := Lib.hid hp2; clear hp2
        (with_reducible refine hp1.mono ?_)
        rintro e w6 ⟨v, rfl, ⟨A6, c6, D6, d6, rfl, ho6, hf6⟩, hb6⟩
        rw [hn2] at ho6 ⊢
        rw [hm2] at hf6 ⊢
        clear hp1 hn2 hm2
        replace hx := hx.below hb6
        replace hy := hy.below hb6
        replace hbw := hbw.trans (hb6.mono hbw.size)
        have HB6 := Lib.hid ((hb6.block _ (blk_lt HB.out)).trans HB.out); clear HB
        replace hN1 := hN1.below hb6
        replace hN2 := hN2.below hb6
        clear hb6
        have x0 := hx.c0
        have x1 := hx.c1
        have xf := hx.fz
        have y0 := hy.c0
        have y1 := hy.c1
        have b1 := cell_row w6 _ 1 _ _ HB6.out
        have b2 := cell_row w6 _ 2 _ _ HB6.out
        simp only [List.getElem?_toArray, List.getElem?_cons_succ, List.getElem?_cons_zero] at b1 b2
        go_wp2_with fail
        clear x0 x1 xf y0 y1 b1 b2
        replace hN1 := hx.stays hN1 (by omega) (by first | exact strs_notSl _ | simp) A6 D6 n2 c6 m2 d6
        replace hN2 := hx.stays hN2 (by omega) (by first | exact strs_notSl _ | simp) A6 D6 n2 c6 m2 d6
        replace hy := hx.other hy (by omega) A6 D6 n2 c6 m2 d6
        replace hx := hx.store ho6 hf6
        clear ho6 hf6
        replace hbw := (hbw.setCell (p := ⟨w.heap.size, 0, none⟩) (Nat.le_refl _) (.slice A6 n2 c6)).setCell (p := ⟨w.heap.size, 1, none⟩) (Nat.le_refl _) (.slice D6 m2 d6)
        obtain ⟨W7, hW7⟩ : ∃ V, (w6.setCell ⟨w.heap.size, 0, none⟩ (.slice A6 n2 c6)).setCell ⟨w.heap.size, 1, none⟩ (.slice D6 m2 d6) = V := ⟨_, rfl⟩
        rw [hW7] at hx hy hbw hN1 hN2 ⊢
        clear hW7 HB6
        (with_reducible refine (HP.out W7 hy.obj hy.fat).mono ?_)
        rintro e w8 ⟨v, rfl, ⟨A8, c8, D8, d8, rfl, ho8, hf8⟩, hb8⟩
        rw [HJ2.out.2.1] at ho8 ⊢
        rw [HJ2.out.2.2] at hf8 ⊢
        clear HP
        replace hx := hx.below hb8
        replace hy := hy.below hb8
        replace hbw := hbw.trans (hb8.mono hbw.size)
        replace hN1 := hN1.below hb8
        replace hN2 := hN2.below hb8
        clear hb8
        have y0 := hy.c0
        have y1 := hy.c1
        have yf := hy.fz
        have x0 := hx.c0
        have x1 := hx.c1
        go_wp2_with fail
        clear x0 x1 y0 y1 yf
        replace hN1 := hy.stays hN1 (by omega) (by simp) A8 D8 n2 c8 m2 d8
        replace hN2 := hy.stays hN2 (by omega) (by simp) A8 D8 n2 c8 m2 d8
        replace hx := hy.other hx (by omega) A8 D8 n2 c8 m2 d8
        replace hy := hy.store ho8 hf8
        clear ho8 hf8
        replace hbw := (hbw.setCell (p := ⟨B2, 0, none⟩) (by simp only; omega) (.slice A8 n2 c8)).setCell (p := ⟨B2, 1, none⟩) (by simp only; omega) (.slice D8 m2 d8)
        obtain ⟨W9, hW9⟩ : ∃ V, (w8.setCell ⟨B2, 0, none⟩ (.slice A8 n2 c8)).setCell ⟨B2, 1, none⟩ (.slice D8 m2 d8) = V := ⟨_, rfl⟩
        rw [hW9] at hx hy hbw hN1 hN2 ⊢
        clear hW9
        have hn2b : n2 ≤ 1000 := by rw [← HJ2.out.2.1]; exact (HJ2.out.1.fit (by omega)).1
        have hm2b : m2 ≤ 1000 := by rw [← HJ2.out.2.2]; exact (HJ2.out.1.fit (by omega)).2.1
        (with_reducible refine (same_yes _ _ _ _ _ _ _ _ _ _ l2 F2 W9 HJ2.out.2.1 HJ2.out.2.2 hx.obj.rd hx.fat.rd hy.obj.rd hy.fat.rd (by omega) (by omega)).mono ?_)
        rintro e w10 ⟨v, rfl, rfl, hb10⟩
        replace hx := hx.below hb10
        replace hy := hy.below hb10
        replace hbw := hbw.trans (hb10.mono hbw.size)
        replace hN1 := hN1.below hb10
        replace hN2 := hN2.below hb10
        clear hb10
        have hck2 := check_any A6 D6 n2 c6 m2 d6 l2 w10 HJ2.out.2.1 hx.obj.rd (by omega)
        have hck3 : fitB = true → Calls Try.prog 17 #[.agg #[.slice A6 n2 c6, .slice D6 m2 d6]] w10 (RetB (fun v _ => v = .int .i64 0) w10) := by
          intro hft
          rw [HJ2.out.1.chk (by have := HFT.out; rw [hft] at this; exact of_decide_eq_true this)] at hck2
          exact hck2
        clear hck2
        have HCK := Lib.hid hck3; clear hck3
        cases fitB with
        | false =>
          go_wp2_with fail
          go_loopw [15] (fun i wq => i = .int .i64 0 ∧ wq = w10) (fun _ _ => 0)
          case atStart => exact ⟨rfl, rfl⟩
          case round =>
            obtain ⟨rfl, rfl⟩ := hrel
            go_wp2_with fail
            go_roundw
            case rel => exact ⟨j + 1, l2, F2, n2, m2, A6, c6, D6, d6, A8, c8, D8, d8, by omega, by go_num, hx, hy, HJ2.out, hbw⟩
            case measure => simp [intOf]; omega
        | true =>
          have x0 := hx.c0
          have x1 := hx.c1
          go_wp2_with fail
          clear x0 x1
          (with_reducible refine (HCK.out (by simp)).mono ?_)
          rintro e w11 ⟨v, rfl, rfl, hb11⟩
          replace hx := hx.below hb11
          replace hy := hy.below hb11
          replace hbw := hbw.trans (hb11.mono hbw.size)
          replace hN1 := hN1.below hb11
          replace hN2 := hN2.below hb11
          clear hb11
          go_wp2_with fail
          go_loopw [15] (fun i wq => i = .int .i64 0 ∧ wq = w11) (fun _ _ => 0)
          case atStart => exact ⟨rfl, rfl⟩
          case round =>
            obtain ⟨rfl, rfl⟩ := hrel
            go_wp2_with fail
            go_roundw
            case rel => exact ⟨j + 1, l2, F2, n2, m2, A6, c6, D6, d6, A8, c8, D8, d8, by omega, by go_num, hx, hy, HJ2.out, hbw⟩
            case measure => simp [intOf]; omega
      have k0' : (ak == 0) = false := beq_eq_false_iff_ne.2 k0
      by_cases k1 : ak = 1
      · subst k1
        have x0 := hx.c0
        have x1 := hx.c1
        have xl := hx.lt
        have xl1 : w.heap.size < wr.heap.size + 1 := by omega
        have xl2 : w.heap.size < wr.heap.size + 1 + 1 := by omega
        go_wp2_with fail
        replace hx := hx.below hb5
        replace hy := hy.below hb5
        replace hbw := hbw.trans (hb5.mono hbw.size)
        clear x0 x1 xl1 xl2 hb5
        obtain ⟨W5, hW5⟩ : ∃ V, (((wr.alloc (.cells #[.int .i64 1, .string ⟨an.toArray⟩, .string ⟨ad.toArray⟩] 46)).alloc (.cells #[] 9)).alloc (.cells #[] 9)) = V := ⟨_, rfl⟩
        rw [hW5] at hx hy hbw HB hN1 hN2 ⊢
        clear hW5
        obtain ⟨B5, hB5⟩ : ∃ V, wr.heap.size = V := ⟨_, rfl⟩
        rw [hB5] at xl HB ⊢
        obtain ⟨F2, hF2⟩ : ∃ x, (Pl.getA ls Fs an).1 = x := ⟨_, rfl⟩
        obtain ⟨n2, hn2⟩ : ∃ x, ls.length = x := ⟨_, rfl⟩
        obtain ⟨m2, hm2⟩ : ∃ x, F2.length = x := ⟨_, rfl⟩
        have hp1 := get_all A1 A1' c1 c1' ls Fs an W5 n1 m1 HJ.out.2.1 HJ.out.2.2 hx.obj hx.fat (HJ.out.1.fit (by omega))
        have hp2 := fun W h h' => rget_all A2 A2' c2 c2' ls Fs an W n1 m1 HJ.out.2.1 HJ.out.2.2 h h' (HJ.out.1.fit (by omega))
        have hinv := Pl.invP_get (nm := an) HJ.out.1
        rw [hF2] at hp1 hp2 hinv
        generalize (Pl.getA ls Fs an).2.1 = gb at hp1 hp2
        generalize (Pl.getA ls Fs an).2.2 = gc at hp1 hp2
        have HJ2 := Lib.hid (And.intro hinv (And.intro hn2 hm2)); clear hinv hF2
        have HP := Lib.hid hp2; clear hp2
        (with_reducible refine hp1.mono ?_)
        rintro e w6 ⟨v, rfl, ⟨A6, c6, D6, d6, rfl, ho6, hf6⟩, hb6⟩
        rw [hn2] at ho6 ⊢
        rw [hm2] at hf6 ⊢
        clear hp1 hn2 hm2
        replace hx := hx.below hb6
        replace hy := hy.below hb6
        replace hbw := hbw.trans (hb6.mono hbw.size)
        have HB6 := Lib.hid ((hb6.block _ (blk_lt HB.out)).trans HB.out); clear HB
        replace hN1 := hN1.below hb6
        replace hN2 := hN2.below hb6
        clear hb6
        have x0 := hx.c0
        have x1 := hx.c1
        have xf := hx.fz
        have y0 := hy.c0
        have y1 := hy.c1
        have b1 := cell_row w6 _ 1 _ _ HB6.out
        have b2 := cell_row w6 _ 2 _ _ HB6.out
        simp only [List.getElem?_toArray, List.getElem?_cons_succ, List.getElem?_cons_zero] at b1 b2
        go_wp2_with fail
        clear x0 x1 xf y0 y1 b1 b2
        replace hN1 := hx.stays hN1 (by omega) (by first | exact strs_notSl _ | simp) A6 D6 n2 c6 m2 d6
        replace hN2 := hx.stays hN2 (by omega) (by first | exact strs_notSl _ | simp) A6 D6 n2 c6 m2 d6
        replace hy := hx.other hy (by omega) A6 D6 n2 c6 m2 d6
        replace hx := hx.store ho6 hf6
        clear ho6 hf6
        replace hbw := (hbw.setCell (p := ⟨w.heap.size, 0, none⟩) (Nat.le_refl _) (.slice A6 n2 c6)).setCell (p := ⟨w.heap.size, 1, none⟩) (Nat.le_refl _) (.slice D6 m2 d6)
        obtain ⟨W7, hW7⟩ : ∃ V, (w6.setCell ⟨w.heap.size, 0, none⟩ (.slice A6 n2 c6)).setCell ⟨w.heap.size, 1, none⟩ (.slice D6 m2 d6) = V := ⟨_, rfl⟩
        rw [hW7] at hx hy hbw hN1 hN2 ⊢
        clear hW7 HB6
        (with_reducible refine (HP.out W7 hy.obj hy.fat).mono ?_)
        rintro e w8 ⟨v, rfl, ⟨A8, c8, D8, d8, rfl, ho8, hf8⟩, hb8⟩
        rw [HJ2.out.2.1] at ho8 ⊢
        rw [HJ2.out.2.2] at hf8 ⊢
        clear HP
        replace hx := hx.below hb8
        replace hy := hy.below hb8
        replace hbw := hbw.trans (hb8.mono hbw.size)
        replace hN1 := hN1.below hb8
        replace hN2 := hN2.below hb8
        clear hb8
        have y0 := hy.c0
        have y1 := hy.c1
        have yf := hy.fz
        have x0 := hx.c0
        have x1 := hx.c1
        go_wp2_with fail
        clear x0 x1 y0 y1 yf
        replace hN1 := hy.stays hN1 (by omega) (by simp) A8 D8 n2 c8 m2 d8
        replace hN2 := hy.stays hN2 (by omega) (by simp) A8 D8 n2 c8 m2 d8
        replace hx := hy.other hx (by omega) A8 D8 n2 c8 m2 d8
        replace hy := hy.store ho8 hf8
        clear ho8 hf8
        replace hbw := (hbw.setCell (p := ⟨B2, 0, none⟩) (by simp only; omega) (.slice A8 n2 c8)).setCell (p := ⟨B2, 1, none⟩) (by simp only; omega) (.slice D8 m2 d8)
        obtain ⟨W9, hW9⟩ : ∃ V, (w8.setCell ⟨B2, 0, none⟩ (.slice A8 n2 c8)).setCell ⟨B2, 1, none⟩ (.slice D8 m2 d8) = V := ⟨_, rfl⟩
        rw [hW9] at hx hy hbw hN1 hN2 ⊢
        clear hW9
        have hn2b : n2 ≤ 1000 := by rw [← HJ2.out.2.1]; exact (HJ2.out.1.fit (by omega)).1
        have hm2b : m2 ≤ 1000 := by rw [← HJ2.out.2.2]; exact (HJ2.out.1.fit (by omega)).2.1
        (with_reducible refine (same_yes _ _ _ _ _ _ _ _ _ _ ls F2 W9 HJ2.out.2.1 HJ2.out.2.2 hx.obj.rd hx.fat.rd hy.obj.rd hy.fat.rd (by omega) (by omega)).mono ?_)
        rintro e w10 ⟨v, rfl, rfl, hb10⟩
        replace hx := hx.below hb10
        replace hy := hy.below hb10
        replace hbw := hbw.trans (hb10.mono hbw.size)
        replace hN1 := hN1.below hb10
        replace hN2 := hN2.below hb10
        clear hb10
        have hck2 := check_any A6 D6 n2 c6 m2 d6 ls w10 HJ2.out.2.1 hx.obj.rd (by omega)
        have hck3 : fitB = true → Calls Try.prog 17 #[.agg #[.slice A6 n2 c6, .slice D6 m2 d6]] w10 (RetB (fun v _ => v = .int .i64 0) w10) := by
          intro hft
          rw [HJ2.out.1.chk (by have := HFT.out; rw [hft] at this; exact of_decide_eq_true this)] at hck2
          exact hck2
        clear hck2
        have HCK := Lib.hid hck3; clear hck3
        cases fitB with
        | false =>
          go_wp2_with fail
          go_loopw [15] (fun i wq => i = .int .i64 0 ∧ wq = w10) (fun _ _ => 0)
          case atStart => exact ⟨rfl, rfl⟩
          case round =>
            obtain ⟨rfl, rfl⟩ := hrel
            go_wp2_with fail
            go_roundw
            case rel => exact ⟨j + 1, ls, F2, n2, m2, A6, c6, D6, d6, A8, c8, D8, d8, by omega, by go_num, hx, hy, HJ2.out, hbw⟩
            case measure => simp [intOf]; omega
        | true =>
          have x0 := hx.c0
          have x1 := hx.c1
          go_wp2_with fail
          clear x0 x1
          (with_reducible refine (HCK.out (by simp)).mono ?_)
          rintro e w11 ⟨v, rfl, rfl, hb11⟩
          replace hx := hx.below hb11
          replace hy := hy.below hb11
          replace hbw := hbw.trans (hb11.mono hbw.size)
          replace hN1 := hN1.below hb11
          replace hN2 := hN2.below hb11
          clear hb11
          go_wp2_with fail
          go_loopw [15] (fun i wq => i = .int .i64 0 ∧ wq = w11) (fun _ _ => 0)
          case atStart => exact ⟨rfl, rfl⟩
          case round =>
            obtain ⟨rfl, rfl⟩ := hrel
            go_wp2_with fail
            go_roundw
            case rel => exact ⟨j + 1, ls, F2, n2, m2, A6, c6, D6, d6, A8, c8, D8, d8, by omega, by go_num, hx, hy, HJ2.out, hbw⟩
            case measure => simp [intOf]; omega
      have k1' : (ak == 1) = false := beq_eq_false_iff_ne.2 k1
      by_cases k2 : ak = 2
      · subst k2
        have x0 := hx.c0
        have x1 := hx.c1
        have xl := hx.lt
        have xl1 : w.heap.size < wr.heap.size + 1 := by omega
        have xl2 : w.heap.size < wr.heap.size + 1 + 1 := by omega
        go_wp2_with fail
        replace hx := hx.below hb5
        replace hy := hy.below hb5
        replace hbw := hbw.trans (hb5.mono hbw.size)
        clear x0 x1 xl1 xl2 hb5
        obtain ⟨W5, hW5⟩ : ∃ V, (((wr.alloc (.cells #[.int .i64 2, .string ⟨an.toArray⟩, .string ⟨ad.toArray⟩] 46)).alloc (.cells #[] 9)).alloc (.cells #[] 9)) = V := ⟨_, rfl⟩
        rw [hW5] at hx hy hbw HB hN1 hN2 ⊢
        clear hW5
        obtain ⟨B5, hB5⟩ : ∃ V, wr.heap.size = V := ⟨_, rfl⟩
        rw [hB5] at xl HB ⊢
        obtain ⟨l2, hl2⟩ : ∃ x, (Pl.dropA ls Fs an).1 = x := ⟨_, rfl⟩
        obtain ⟨F2, hF2⟩ : ∃ x, (Pl.dropA ls Fs an).2.1 = x := ⟨_, rfl⟩
        obtain ⟨n2, hn2⟩ : ∃ x, l2.length = x := ⟨_, rfl⟩
        obtain ⟨m2, hm2⟩ : ∃ x, F2.length = x := ⟨_, rfl⟩
        have hp1 := drop_all A1 A1' c1 c1' ls Fs an W5 n1 m1 HJ.out.2.1 HJ.out.2.2 hx.obj hx.fat (HJ.out.1.fit (by omega))
        have hp2 := fun W h h' => rdrop_all A2 A2' c2 c2' ls Fs an W n1 m1 HJ.out.2.1 HJ.out.2.2 h h' (HJ.out.1.fit (by omega))
        have hinv := Pl.invP_drop (nm := an) HJ.out.1
        rw [hF2] at hp1 hp2 hinv
        rw [hl2] at hp1 hp2 hinv
        generalize (Pl.dropA ls Fs an).2.2 = gc at hp1 hp2
        have HJ2 := Lib.hid (And.intro hinv (And.intro hn2 hm2)); clear hinv hF2 hl2
        have HP := Lib.hid hp2; clear hp2
        (with_reducible refine hp1.mono ?_)
        rintro e w6 ⟨v, rfl, ⟨A6, c6, D6, d6, rfl, ho6, hf6⟩, hb6⟩
        rw [hn2] at ho6 ⊢
        rw [hm2] at hf6 ⊢
        clear hp1 hn2 hm2
        replace hx := hx.below hb6
        replace hy := hy.below hb6
        replace hbw := hbw.trans (hb6.mono hbw.size)
        have HB6 := Lib.hid ((hb6.block _ (blk_lt HB.out)).trans HB.out); clear HB
        replace hN1 := hN1.below hb6
        replace hN2 := hN2.below hb6
        clear hb6
        have x0 := hx.c0
        have x1 := hx.c1
        have xf := hx.fz
        have y0 := hy.c0
        have y1 := hy.c1
        have b1 := cell_row w6 _ 1 _ _ HB6.out
        have b2 := cell_row w6 _ 2 _ _ HB6.out
        simp only [List.getElem?_toArray, List.getElem?_cons_succ, List.getElem?_cons_zero] at b1 b2
        go_wp2_with fail
        clear x0 x1 xf y0 y1 b1 b2
        replace hN1 := hx.stays hN1 (by omega) (by first | exact strs_notSl _ | simp) A6 D6 n2 c6 m2 d6
        replace hN2 := hx.stays hN2 (by omega) (by first | exact strs_notSl _ | simp) A6 D6 n2 c6 m2 d6
        replace hy := hx.other hy (by omega) A6 D6 n2 c6 m2 d6
        replace hx := hx.store ho6 hf6
        clear ho6 hf6
        replace hbw := (hbw.setCell (p := ⟨w.heap.size, 0, none⟩) (Nat.le_refl _) (.slice A6 n2 c6)).setCell (p := ⟨w.heap.size, 1, none⟩) (Nat.le_refl _) (.slice D6 m2 d6)
        obtain ⟨W7, hW7⟩ : ∃ V, (w6.setCell ⟨w.heap.size, 0, none⟩ (.slice A6 n2 c6)).setCell ⟨w.heap.size, 1, none⟩ (.slice D6 m2 d6) = V := ⟨_, rfl⟩
        rw [hW7] at hx hy hbw hN1 hN2 ⊢
        clear hW7 HB6
        (with_reducible refine (HP.out W7 hy.obj hy.fat).mono ?_)
        rintro e w8 ⟨v, rfl, ⟨A8, c8, D8, d8, rfl, ho8, hf8⟩, hb8⟩
        rw [HJ2.out.2.1] at ho8 ⊢
        rw [HJ2.out.2.2] at hf8 ⊢
        clear HP
        replace hx := hx.below hb8
        replace hy := hy.below hb8
        replace hbw := hbw.trans (hb8.mono hbw.size)
        replace hN1 := hN1.below hb8
        replace hN2 := hN2.below hb8
        clear hb8
        have y0 := hy.c0
        have y1 := hy.c1
        have yf := hy.fz
        have x0 := hx.c0
        have x1 := hx.c1
        go_wp2_with fail
        clear x0 x1 y0 y1 yf
        replace hN1 := hy.stays hN1 (by omega) (by simp) A8 D8 n2 c8 m2 d8
        replace hN2 := hy.stays hN2 (by omega) (by simp) A8 D8 n2 c8 m2 d8
        replace hx := hy.other hx (by omega) A8 D8 n2 c8 m2 d8
        replace hy := hy.store ho8 hf8
        clear ho8 hf8
        replace hbw := (hbw.setCell (p := ⟨B2, 0, none⟩) (by simp only; omega) (.slice A8 n2 c8)).setCell (p := ⟨B2, 1, none⟩) (by simp only; omega) (.slice D8 m2 d8)
        obtain ⟨W9, hW9⟩ : ∃ V, (w8.setCell ⟨B2, 0, none⟩ (.slice A8 n2 c8)).setCell ⟨B2, 1, none⟩ (.slice D8 m2 d8) = V := ⟨_, rfl⟩
        rw [hW9] at hx hy hbw hN1 hN2 ⊢
        clear hW9
        have hn2b : n2 ≤ 1000 := by rw [← HJ2.out.2.1]; exact (HJ2.out.1.fit (by omega)).1
        have hm2b : m2 ≤ 1000 := by rw [← HJ2.out.2.2]; exact (HJ2.out.1.fit (by omega)).2.1
        (with_reducible refine (same_yes _ _ _ _ _ _ _ _ _ _ l2 F2 W9 HJ2.out.2.1 HJ2.out.2.2 hx.obj.rd hx.fat.rd hy.obj.rd hy.fat.rd (by omega) (by omega)).mono ?_)
        rintro e w10 ⟨v, rfl, rfl, hb10⟩
        replace hx := hx.below hb10
        replace hy := hy.below hb10
        replace hbw := hbw.trans (hb10.mono hbw.size)
        replace hN1 := hN1.below hb10
        replace hN2 := hN2.below hb10
        clear hb10
        have hck2 := check_any A6 D6 n2 c6 m2 d6 l2 w10 HJ2.out.2.1 hx.obj.rd (by omega)
        have hck3 : fitB = true → Calls Try.prog 17 #[.agg #[.slice A6 n2 c6, .slice D6 m2 d6]] w10 (RetB (fun v _ => v = .int .i64 0) w10) := by
          intro hft
          rw [HJ2.out.1.chk (by have := HFT.out; rw [hft] at this; exact of_decide_eq_true this)] at hck2
          exact hck2
        clear hck2
        have HCK := Lib.hid hck3; clear hck3
        cases fitB with
        | false =>
          go_wp2_with fail
          go_loopw [15] (fun i wq => i = .int .i64 0 ∧ wq = w10) (fun _ _ => 0)
          case atStart => exact ⟨rfl, rfl⟩
          case round =>
            obtain ⟨rfl, rfl⟩ := hrel
            go_wp2_with fail
            go_roundw
            case rel => exact ⟨j + 1, l2, F2, n2, m2, A6, c6, D6, d6, A8, c8, D8, d8, by omega, by go_num, hx, hy, HJ2.out, hbw⟩
            case measure => simp [intOf]; omega
        | true =>
          have x0 := hx.c0
          have x1 := hx.c1
          go_wp2_with fail
          clear x0 x1
          (with_reducible refine (HCK.out (by simp)).mono ?_)
          rintro e w11 ⟨v, rfl, rfl, hb11⟩
          replace hx := hx.below hb11
          replace hy := hy.below hb11
          replace hbw := hbw.trans (hb11.mono hbw.size)
          replace hN1 := hN1.below hb11
          replace hN2 := hN2.below hb11
          clear hb11
          go_wp2_with fail
          go_loopw [15] (fun i wq => i = .int .i64 0 ∧ wq = w11) (fun _ _ => 0)
          case atStart => exact ⟨rfl, rfl⟩
          case round =>
            obtain ⟨rfl, rfl⟩ := hrel
            go_wp2_with fail
            go_roundw
            case rel => exact ⟨j + 1, l2, F2, n2, m2, A6, c6, D6, d6, A8, c8, D8, d8, by omega, by go_num, hx, hy, HJ2.out, hbw⟩
            case measure => simp [intOf]; omega
      have k2' : (ak == 2) = false := beq_eq_false_iff_ne.2 k2
      clear k0 k1 k2
      have x0 := hx.c0
      have x1 := hx.c1
      have xl := hx.lt
      have xl1 : w.heap.size < wr.heap.size + 1 := by omega
      have xl2 : w.heap.size < wr.heap.size + 1 + 1 := by omega
      go_wp2_with fail
      replace hx := hx.below hb5
      replace hy := hy.below hb5
      replace hbw := hbw.trans (hb5.mono hbw.size)
      clear x0 x1 xl1 xl2 hb5
      obtain ⟨W5, hW5⟩ : ∃ V, (((wr.alloc (.cells #[.int .i64 ak, .string ⟨an.toArray⟩, .string ⟨ad.toArray⟩] 46)).alloc (.cells #[] 9)).alloc (.cells #[] 9)) = V := ⟨_, rfl⟩
      rw [hW5] at hx hy hbw HB hN1 hN2 ⊢
      clear hW5
      obtain ⟨B5, hB5⟩ : ∃ V, wr.heap.size = V := ⟨_, rfl⟩
      rw [hB5] at xl HB ⊢
      obtain ⟨F2, hF2⟩ : ∃ x, (Pl.namesA ls Fs an).1 = x := ⟨_, rfl⟩
      obtain ⟨n2, hn2⟩ : ∃ x, ls.length = x := ⟨_, rfl⟩
      obtain ⟨m2, hm2⟩ : ∃ x, F2.length = x := ⟨_, rfl⟩
      have hp1 := names_all A1 A1' c1 c1' ls Fs an W5 n1 m1 HJ.out.2.1 HJ.out.2.2 hx.obj hx.fat (HJ.out.1.fit (by omega))
      have hp2 := fun W h h' => rnames_all A2 A2' c2 c2' ls Fs an W n1 m1 HJ.out.2.1 HJ.out.2.2 h h' (HJ.out.1.fit (by omega))
      have hinv := Pl.invP_names (nm := an) HJ.out.1
      rw [hF2] at hp1 hp2 hinv
      obtain ⟨ns, hns⟩ : ∃ x, (Pl.namesA ls Fs an).2.1 = x := ⟨_, rfl⟩
      rw [hns] at hp1 hp2
      generalize (Pl.namesA ls Fs an).2.2 = gc at hp1 hp2
      obtain ⟨nn, hnn⟩ : ∃ x, ns.length = x := ⟨_, rfl⟩
      have HJ2 := Lib.hid (And.intro hinv (And.intro hn2 hm2)); clear hinv hF2
      have HP := Lib.hid hp2; clear hp2
      (with_reducible refine hp1.mono ?_)
      rintro e w6 ⟨v, rfl, ⟨A6, c6, D6, d6, An6, cn6, rfl, ho6, hf6, hs6⟩, hb6⟩
      rw [hn2] at ho6 ⊢
      rw [hm2] at hf6 ⊢
      rw [hnn] at hs6 ⊢
      clear hN1
      have hN1 := hs6
      clear hp1 hn2 hm2
      replace hx := hx.below hb6
      replace hy := hy.below hb6
      replace hbw := hbw.trans (hb6.mono hbw.size)
      have HB6 := Lib.hid ((hb6.block _ (blk_lt HB.out)).trans HB.out); clear HB

      replace hN2 := hN2.below hb6
      clear hb6
      have x0 := hx.c0
      have x1 := hx.c1
      have xf := hx.fz
      have y0 := hy.c0
      have y1 := hy.c1
      have b1 := cell_row w6 _ 1 _ _ HB6.out
      have b2 := cell_row w6 _ 2 _ _ HB6.out
      simp only [List.getElem?_toArray, List.getElem?_cons_succ, List.getElem?_cons_zero] at b1 b2
      go_wp2_with fail
      clear x0 x1 xf y0 y1 b1 b2
      replace hN1 := hx.stays hN1 (by omega) (by first | exact strs_notSl _ | simp) A6 D6 n2 c6 m2 d6
      replace hN2 := hx.stays hN2 (by omega) (by first | exact strs_notSl _ | simp) A6 D6 n2 c6 m2 d6
      replace hy := hx.other hy (by omega) A6 D6 n2 c6 m2 d6
      replace hx := hx.store ho6 hf6
      clear ho6 hf6
      replace hbw := (hbw.setCell (p := ⟨w.heap.size, 0, none⟩) (Nat.le_refl _) (.slice A6 n2 c6)).setCell (p := ⟨w.heap.size, 1, none⟩) (Nat.le_refl _) (.slice D6 m2 d6)
      obtain ⟨W7, hW7⟩ : ∃ V, (w6.setCell ⟨w.heap.size, 0, none⟩ (.slice A6 n2 c6)).setCell ⟨w.heap.size, 1, none⟩ (.slice D6 m2 d6) = V := ⟨_, rfl⟩
      rw [hW7] at hx hy hbw hN1 hN2 ⊢
      clear hW7 HB6
      (with_reducible refine (HP.out W7 hy.obj hy.fat).mono ?_)
      rintro e w8 ⟨v, rfl, ⟨A8, c8, D8, d8, An8, cn8, rfl, ho8, hf8, hs8⟩, hb8⟩
      rw [HJ2.out.2.1] at ho8 ⊢
      rw [HJ2.out.2.2] at hf8 ⊢
      rw [hnn] at hs8 ⊢
      clear hN2
      have hN2 := hs8
      have HNN := Lib.hid hnn; clear hnn
      clear HP
      replace hx := hx.below hb8
      replace hy := hy.below hb8
      replace hbw := hbw.trans (hb8.mono hbw.size)
      replace hN1 := hN1.below hb8

      clear hb8
      have y0 := hy.c0
      have y1 := hy.c1
      have yf := hy.fz
      have x0 := hx.c0
      have x1 := hx.c1
      go_wp2_with fail
      clear x0 x1 y0 y1 yf
      replace hN1 := hy.stays hN1 (by omega) (by exact strs_notSl _) A8 D8 n2 c8 m2 d8
      replace hN2 := hy.stays hN2 (by omega) (by exact strs_notSl _) A8 D8 n2 c8 m2 d8
      replace hx := hy.other hx (by omega) A8 D8 n2 c8 m2 d8
      replace hy := hy.store ho8 hf8
      clear ho8 hf8
      replace hbw := (hbw.setCell (p := ⟨B2, 0, none⟩) (by simp only; omega) (.slice A8 n2 c8)).setCell (p := ⟨B2, 1, none⟩) (by simp only; omega) (.slice D8 m2 d8)
      obtain ⟨W9, hW9⟩ : ∃ V, (w8.setCell ⟨B2, 0, none⟩ (.slice A8 n2 c8)).setCell ⟨B2, 1, none⟩ (.slice D8 m2 d8) = V := ⟨_, rfl⟩
      rw [hW9] at hx hy hbw hN1 hN2 ⊢
      clear hW9
      have hn2b : n2 ≤ 1000 := by rw [← HJ2.out.2.1]; exact (HJ2.out.1.fit (by omega)).1
      have hm2b : m2 ≤ 1000 := by rw [← HJ2.out.2.2]; exact (HJ2.out.1.fit (by omega)).2.1
      (with_reducible refine (same_yes _ _ _ _ _ _ _ _ _ _ ls F2 W9 HJ2.out.2.1 HJ2.out.2.2 hx.obj.rd hx.fat.rd hy.obj.rd hy.fat.rd (by omega) (by omega)).mono ?_)
      rintro e w10 ⟨v, rfl, rfl, hb10⟩
      replace hx := hx.below hb10
      replace hy := hy.below hb10
      replace hbw := hbw.trans (hb10.mono hbw.size)
      replace hN1 := hN1.below hb10
      replace hN2 := hN2.below hb10
      clear hb10
      have hck2 := check_any A6 D6 n2 c6 m2 d6 ls w10 HJ2.out.2.1 hx.obj.rd (by omega)
      have hck3 : fitB = true → Calls Try.prog 17 #[.agg #[.slice A6 n2 c6, .slice D6 m2 d6]] w10 (RetB (fun v _ => v = .int .i64 0) w10) := by
        intro hft
        rw [HJ2.out.1.chk (by have := HFT.out; rw [hft] at this; exact of_decide_eq_true this)] at hck2
        exact hck2
      clear hck2
      have HCK := Lib.hid hck3; clear hck3
      cases fitB with
      | false =>
        go_wp2_with fail
        have hnb : nn ≤ 9223372036854775807 := Nat.le_trans hN1.2.1 hN1.2.2.1
        go_loopw [15] (fun i wq => ∃ (k q : Nat), k ≤ nn ∧ i = .int .i64 (k : Nat) ∧ wq = w10.drewN q) (fun i _ => nn - (intOf i).toNat)
        case atStart => exact ⟨0, 0, by omega, rfl, rfl⟩
        case round =>
          obtain ⟨k, q, hk, rfl, rfl⟩ := hrel
          by_cases hkn : k < nn
          · have hkl : k < ns.length := by rw [HNN.out]; exact hkn
            obtain ⟨g1, o1, rfl, hg1, p0⟩ := hN1.rd.at1 hkn
            obtain ⟨g2, o2, rfl, hg2, r0⟩ := hN2.rd.at1 hkn
            rw [strs_get ns k hkl] at p0 r0
            obtain ⟨y, hy'⟩ : ∃ y, ns[k] = y := ⟨_, rfl⟩
            rw [hy'] at p0 r0
            clear hy'
            have hj1 : (0 : Int) ≤ (k : Int) := by omega
            have hj2 : (k : Int) < (nn : Int) := by omega
            go_wp2_with fail
            go_quiet (fail)
            go_wp2_with fail
            go_roundw
            case rel => exact ⟨k + 1, _, by omega, by go_num, rfl⟩
            case measure => simp [intOf]; omega
          · obtain rfl : k = nn := by omega
            go_wp2_with fail
            go_roundw
            case rel => exact ⟨j + 1, ls, F2, n2, m2, A6, c6, D6, d6, A8, c8, D8, d8, by omega, by go_num, hx.below (below_drewN (Below.refl _ _) q), hy.below (below_drewN (Below.refl _ _) q), HJ2.out, below_drewN hbw q⟩
            case measure => simp [intOf]; omega
      | true =>
        have x0 := hx.c0
        have x1 := hx.c1
        go_wp2_with fail
        clear x0 x1
        (with_reducible refine (HCK.out (by simp)).mono ?_)
        rintro e w11 ⟨v, rfl, rfl, hb11⟩
        replace hx := hx.below hb11
        replace hy := hy.below hb11
        replace hbw := hbw.trans (hb11.mono hbw.size)
        replace hN1 := hN1.below hb11
        replace hN2 := hN2.below hb11
        clear hb11
        go_wp2_with fail
        have hnb : nn ≤ 9223372036854775807 := Nat.le_trans hN1.2.1 hN1.2.2.1
        go_loopw [15] (fun i wq => ∃ (k q : Nat), k ≤ nn ∧ i = .int .i64 (k : Nat) ∧ wq = w11.drewN q) (fun i _ => nn - (intOf i).toNat)
        case atStart => exact ⟨0, 0, by omega, rfl, rfl⟩
        case round =>
          obtain ⟨k, q, hk, rfl, rfl⟩ := hrel
          by_cases hkn : k < nn
          · have hkl : k < ns.length := by rw [HNN.out]; exact hkn
            obtain ⟨g1, o1, rfl, hg1, p0⟩ := hN1.rd.at1 hkn
            obtain ⟨g2, o2, rfl, hg2, r0⟩ := hN2.rd.at1 hkn
            rw [strs_get ns k hkl] at p0 r0
            obtain ⟨y, hy'⟩ : ∃ y, ns[k] = y := ⟨_, rfl⟩
            rw [hy'] at p0 r0
            clear hy'
            have hj1 : (0 : Int) ≤ (k : Int) := by omega
            have hj2 : (k : Int) < (nn : Int) := by omega
            go_wp2_with fail
            go_quiet (fail)
            go_wp2_with fail
            go_roundw
            case rel => exact ⟨k + 1, _, by omega, by go_num, rfl⟩
            case measure => simp [intOf]; omega
          · obtain rfl : k = nn := by omega
            go_wp2_with fail
            go_roundw
            case rel => exact ⟨j + 1, ls, F2, n2, m2, A6, c6, D6, d6, A8, c8, D8, d8, by omega, by go_num, hx.below (below_drewN (Below.refl _ _) q), hy.below (below_drewN (Below.refl _ _) q), HJ2.out, below_drewN hbw q⟩
            case measure => simp [intOf]; omega
    · obtain rfl : j = n0 := by omega
      go_wp2_with fail
      (with_reducible refine (awake_any _).mono ?_)
      rintro e wa9 ⟨v, rfl, rfl, hba9⟩
      go_wp2_with fail
      go_ret
      exact ⟨_, rfl, rfl, hbw.trans (hba9.mono hbw.size)⟩
-- FRAME
set_option maxRecDepth 100000 in
theorem shelfPlays_lifted (os : Os) (started : os.Started) (H : Type) (enc : TypeId × Value → H) :
    ReturnsInHanded {} Try.checked os 6 .any (Rows.shelfPlaysSpec.pre6 enc Try.prog Try.f6 Rows.shelfPlaysRow.domain false) (Rows.shelfPlaysSpec.post enc Try.prog Try.f6 false true false false) := by
  refine returnsInHanded_of_change_sized (C := Try.checked) own started (by kernel_rfl) Try.func6
    (ChangeSpec.witness6 (enc := enc) (C := Try.checked) false ⟨#[], #[.agg #[.slice none 0 0, .slice none 0 0], .slice none 0 0], []⟩ 8 (by kernel_rfl) (by kernel_rfl) (by kernel_rfl) (by kernel_rfl)) ?_
  intro W base args ds gs before hval0 hW hcnd hsz0 _
  have hval : ∀ (j : Nat) t v, Try.f6.params[j]? = some t → args[j]? = some v → Value.okWide Try.prog W .any base t v := hval0
  have hW' := hW
  obtain ⟨p, q, hA0, hV, rfl, hfz, hnd⟩ := hW
  have hA : DataW.TrodAll enc Try.prog W 0 (fun _ => true) true Try.f6.params.toList args.toList ds p := hA0
  have hsz : (DataW.weightsEach Try.prog (Try.f6.params.toList ++ Rows.shelfPlaysSpec.plain.varTypes Try.prog) (ds ++ gs)).all (· ≤ reachBytes) = true := hsz0
  rw [Try.params6] at hA hval hsz
  obtain ⟨v0, vs0, d0, ds0, p0, q0, hargs, rfl, rfl, h0, r0⟩ := trodAll_cons hA
  obtain ⟨v1, vs1, d1, ds1, p1, q1, rfl, rfl, rfl, h1, r1⟩ := trodAll_cons r0
  obtain ⟨rfl, rfl, rfl⟩ := trodAll_nil r1
  obtain rfl : args = #[v0, v1] := by cases args; simp_all
  obtain ⟨rfl, rfl⟩ := trodVars_none hV
  have k0 := h0
  have lt0 : ∀ x ∈ p0, x.block < W.heap.size := by obtain ⟨m, hm⟩ := k0; exact DataW.trod_lt m _ _ _ hm
  have hz0 : ∀ m ∈ d0.weights Try.prog 25, m ≤ reachBytes := fun m hm => by
    have h1 := List.all_eq_true.1 hsz m (DataW.weights_mem_each (j := 0) rfl rfl m hm)
    simpa using h1
  obtain ⟨A0, B0, n0, c0, m0, cc0, l0, F0, rfl, eA0, eB0, eC0, eD0, eE0, eF0⟩ := open_shelf (hval 0 25 v0 rfl rfl) h0 hz0
  have k1 := h1
  have lt1 : ∀ x ∈ p1, x.block < W.heap.size := by obtain ⟨m, hm⟩ := k1; exact DataW.trod_lt m _ _ _ hm
  have hz1 : ∀ m ∈ d1.weights Try.prog 43, m ≤ reachBytes := fun m hm => by
    have h1 := List.all_eq_true.1 hsz m (DataW.weights_mem_each (j := 1) rfl rfl m hm)
    simpa using h1
  obtain ⟨A1, n1, c1, l1, rfl, eA1, eB1, eC1⟩ := open_acts (hval 1 43 v1 rfl rfl) h1 hz1
  clear hA0 hval0 hsz0
  refine (shelfPlays_walk A0 B0 n0 c0 m0 cc0 l0 F0 A1 n1 c1 l1 W eA0 eB0 eC0 eD0 eE0 eF0 eA1 eB1 eC1).mono fun e W' ⟨v, he, hv, bel⟩ => ?_
  subst he hv
  exact ⟨_, rfl, _, _, _, [], _, [], hW', trodAll_mk1 (shut_bool Try.underlying4 _), (trodAll_cons_mk (Below.trod laidOut (by kernel_rfl) (of_decide_eq_true (by kernel_rfl)) k0 bel lt0) (trodAll_cons_mk (Below.trod laidOut (by kernel_rfl) (of_decide_eq_true (by kernel_rfl)) k1 bel lt1) trodAll_mk0)), rfl, bel.frame _, fun h => by cases h⟩

theorem shelfPlays_holds : Rows.ShelfPlaysSaid :=
  OpenClaim.holds_of_wide 6 Try.f6 rfl rfl rfl rfl rfl rfl rfl ⟨rfl, rfl, rfl, rfl, rfl⟩ rfl rfl rfl rfl rfl (by kernel_rfl) Try.func6 (by kernel_rfl)
    (of_decide_eq_true (by kernel_rfl)) (by unfold Func.isWrapper; first | (rw [if_pos (by decide +kernel)]; kernel_rfl) | (rw [if_neg (by decide +kernel)]; exact ⟨rfl, rfl⟩))
    (fun os started H enc _ => shelfPlays_lifted os started H enc)
#print axioms shelfPlays_holds
end Go.Proofs.Ytnapokalopcdkaa
