/- ShelfCalls holds: each call that has no error of its own takes one fate; another name's bytes are as they were. No condition. -/
import Derived.Test.YtnapokalopcdkaaShAct
import Derived.Test.YtnapokalopcdkaaShW2
import Derived.Test.YtnapokalopcdkaaOpenSh
namespace Go.Proofs.Ytnapokalopcdkaa
open Go.ChangeShapes Go.WideShapes Go.ChangeAt Go.RowKit
set_option linter.unusedVariables false
set_option linter.unusedSimpArgs false

theorem Pl.getR_same {l l' : List Pl.Obj} {x : List UInt8} (f : Int) (h : Pl.findO l x = Pl.findO l' x) : Pl.getR l f x = Pl.getR l' f x := by unfold Pl.getR; rw [h]
theorem Pl.getA_nil {l : List Pl.Obj} {x : List UInt8} (h : Pl.chk l = 0) (hn : Pl.okName x = true) : Pl.getA l [] x = ([], (Pl.getR l 0 x).1, (Pl.getR l 0 x).2) := by
  unfold Pl.getA; rw [if_neg (by rw [Pl.askE_of h hn]; simp)]; rfl
set_option maxRecDepth 100000 in
set_option maxHeartbeats 8000000 in
theorem shelfCalls_walk (A A' : Option Addr) (n c m c' : Nat) (l : List Pl.Obj) (F : List Int) (A0 : Option Addr) (n0 c0 : Nat) (la : List Pl.Act) (nm : List UInt8) (w : World) (hl : l.length = n) (hF : F.length = m) (hr : SlAt w 4 A n c (objCs l)) (hr' : SlAt w 1 A' m c' (ints F)) (hn : n ≤ 140737488355328) (hm : m ≤ 140737488355328)
    (hla : la.length = n0) (hra : Rd w 3 A0 n0 (actCs la)) (hn0 : n0 ≤ 140737488355328) :
    Calls Try.prog 7 #[.agg #[.slice A n c, .slice A' m c'], .slice A0 n0 c0, .string ⟨nm.toArray⟩] w (RetB (fun v _ => v = .bool true) w) := by
  obtain ⟨GA, hGA⟩ : ∃ G, Pl.greatA la = G := ⟨_, rfl⟩
  have hga := fun w h => greatA_any A0 n0 c0 la w hla h hn0
  rw [hGA] at hga
  have HA := Lib.hid (And.intro hga (And.intro hGA hla)); clear hga hGA hla
  obtain ⟨G, hG⟩ : ∃ G, greatB l m = G := ⟨_, rfl⟩
  have hgr := fun w h => great_any A A' n c m c' l w hl h hn
  unfold greatI at hgr
  rw [hG] at hgr
  obtain ⟨E, hE⟩ : ∃ E, Pl.chk l = E := ⟨_, rfl⟩
  have hck := fun w h hn => rcheck_any A A' n c m c' l w hl h hn
  rw [hE] at hck
  obtain ⟨q, hq⟩ : ∃ q, Pl.okName nm = q := ⟨_, rfl⟩
  have hnm := fun w => rName_any nm w
  rw [hq] at hnm
  have HC := Lib.hid (And.intro hgr (And.intro hck hnm)); clear hgr hck hnm
  have HE := Lib.hid (And.intro hG (And.intro hE (And.intro hq (And.intro hl hF)))); clear hG hE hq hl hF
  go_enter Try.func7, Try.ntmps7
  go_wp2_with fail
  have hx := shb_new w hr hr'
  have hbw := (Below.refl w.heap.size w).alloc (Nat.le_refl _) (.cells #[.slice A n c, .slice A' m c'] 25)
  obtain ⟨V, hV⟩ : ∃ V, w.alloc (.cells #[.slice A n c, .slice A' m c'] 25) = V := ⟨_, rfl⟩
  rw [hV] at hx hbw ⊢
  clear hV hr hr'
  (with_reducible refine (HC.out.1 V hx.obj.rd).mono ?_)
  rintro e w1 ⟨v, rfl, rfl, hb1⟩
  replace hx := hx.below hb1
  replace hbw := hbw.trans (hb1.mono hbw.size)
  clear hb1
  cases G with
  | true =>
    go_wp2_with fail
    (with_reducible refine (awake_any _).mono ?_)
    rintro e wa9 ⟨v, rfl, rfl, hba9⟩
    go_wp2_with fail
    go_ret
    exact ⟨_, rfl, rfl, hbw.trans (hba9.mono hbw.size)⟩
  | false =>
  obtain ⟨g1, g2, g3⟩ := great_of HE.out.1
  have hn30 : n ≤ 30 := by rw [← HE.out.2.2.2.1]; exact g1
  have HG := Lib.hid g3; clear g1 g3
  go_wp2_with fail
  (with_reducible refine (HA.out.1 _ (by exact hra.below hbw)).mono ?_)
  rintro e w2 ⟨rfl, rfl⟩
  cases GA with
  | true =>
    go_wp2_with fail
    (with_reducible refine (awake_any _).mono ?_)
    rintro e wa9 ⟨v, rfl, rfl, hba9⟩
    go_wp2_with fail
    go_ret
    exact ⟨_, rfl, rfl, hbw.trans (hba9.mono hbw.size)⟩
  | false =>
  obtain ⟨ga1, ga2⟩ := Pl.greatA_of HA.out.2.1
  have hn20 : n0 ≤ 20 := by rw [← HA.out.2.2]; exact ga1
  have HGA := Lib.hid ga2; clear ga1 ga2
  have x0 := hx.c0
  have x1 := hx.c1
  go_wp2_with fail
  (with_reducible refine (HC.out.2.1 w1 hx.obj.rd (by omega)).mono ?_)
  rintro e w2 ⟨v, rfl, rfl, hb2⟩
  replace hx := hx.below hb2
  replace hbw := hbw.trans (hb2.mono hbw.size)
  clear hb2 x0 x1
  by_cases hE0 : E = 0
  rotate_left
  · have hne : ((E : Int) != 0) = true := by simp; omega
    go_wp2_with fail
    (with_reducible refine (awake_any _).mono ?_)
    rintro e wa9 ⟨v, rfl, rfl, hba9⟩
    go_wp2_with fail
    go_ret
    exact ⟨_, rfl, rfl, hbw.trans (hba9.mono hbw.size)⟩
  subst hE0
  go_wp2_with fail
  (with_reducible refine (HC.out.2.2 _).mono ?_)
  rintro e w3 ⟨rfl, rfl⟩
  cases q with
  | false =>
    go_wp2_with fail
    (with_reducible refine (awake_any _).mono ?_)
    rintro e wa9 ⟨v, rfl, rfl, hba9⟩
    go_wp2_with fail
    go_ret
    exact ⟨_, rfl, rfl, hbw.trans (hba9.mono hbw.size)⟩
  | true =>
  obtain ⟨⟨go, ge⟩, hgg⟩ : ∃ g, Pl.getR l 0 nm = g := ⟨_, rfl⟩
  have HGG := Lib.hid hgg; clear hgg
  have hgt : ∀ (j : Nat) (ls : List Pl.Obj) (n1 : Nat) (Fs : List Int), Pl.Inv l nm j ls Fs → j ≤ 100 → ls.length = n1 → ∀ A A' c c' w, SlAt w 4 A n1 c (objCs ls) → SlAt w 1 A' 0 c' (ints []) → Calls Try.prog 12 #[.agg #[.slice A n1 c, .slice A' 0 c'], .string ⟨nm.toArray⟩] w (RetB (GetOut ls [] go ge) w) := by
    intro j ls n1 Fs hi hj h1 A A' c c' w h h'
    have hf := hi.fit hj
    have := get_all A A' c c' ls [] nm w n1 0 h1 rfl h h' (Pl.Fit.mk hf.1 (by simp) hf.2.2)
    rwa [Pl.getA_nil hi.chk HE.out.2.2.1, Pl.getR_same 0 hi.fnd, HGG.out] at this
  have HGT := Lib.hid hgt; clear hgt
  have hinv : Pl.Inv l nm 0 l F := ⟨HE.out.2.1, rfl, by rw [HE.out.2.2.2.1]; omega, fun o ho => by have := (HG.out o ho).2.1; omega, by rw [HE.out.2.2.2.2]; exact g2⟩
  have HI := Lib.hid hinv; clear hinv
  have x0 := hx.c0
  have x1 := hx.c1
  go_wp2_with fail
  (with_reducible refine (honest_any _ _ _ _ _ _ _).mono ?_)
  rintro e w3 ⟨v, rfl, ⟨A3, c3, rfl, hs3⟩, hb3⟩
  replace hx := hx.below hb3
  replace hbw := hbw.trans (hb3.mono hbw.size)
  clear x0 x1
  go_wp2_with fail
  (with_reducible refine (HGT.out 0 l n F HI.out (by omega) HE.out.2.2.2.1 _ _ _ _ _ hx.obj hs3).mono ?_)
  rintro e w4 ⟨v, rfl, ⟨A4, c4, D4, d4, rfl, ho4, hf4⟩, hb4⟩
  simp only [HE.out.2.2.2.1, List.length_nil] at ho4 hf4 ⊢
  have hc4 := hb4.alloc hb4.size (.cells #[.slice A4 n c4, .slice D4 0 d4] 25)
  replace hx := hx.below hc4
  replace hbw := hbw.trans (hc4.mono hbw.size)
  have x0 := hx.c0
  have x1 := hx.c1
  go_wp2_with fail
  clear x0 x1 hc4 hb4 hb3 hs3 ho4 hf4
  obtain ⟨V4, hV4⟩ : ∃ V, w4.alloc (.cells #[.slice A4 n c4, .slice D4 0 d4] 25) = V := ⟨_, rfl⟩
  rw [hV4] at hx hbw ⊢
  clear hV4
  go_loopw [10, 11] (fun ni i wr => ∃ (j : Nat) (ls : List Pl.Obj) (Fs : List Int) (A1 : Option Addr) (n1 c1 : Nat) (A1' : Option Addr) (m1 c1' : Nat), j ≤ n0 ∧ i = .int .i64 (j : Nat) ∧ ni = .int .i64 (m1 : Nat) ∧ ShB w.heap.size ls Fs A1 n1 c1 A1' m1 c1' wr ∧ Hid (Pl.Inv l nm j ls Fs ∧ ls.length = n1 ∧ Fs.length = m1) ∧ Below w.heap.size w wr) (fun _ i _ => n0 - (intOf i).toNat)
  case atStart => exact ⟨0, l, F, A, n, c, A', m, c', by omega, rfl, rfl, hx, ⟨HI.out, HE.out.2.2.2.1, HE.out.2.2.2.2⟩, hbw⟩
  case round =>
    clear hx hbw
    obtain ⟨j, ls, Fs, A1, n1, c1, A1', m1, c1', hj, rfl, rfl, hx, HJ, hbw⟩ := hrel
    have hra' := hra.below hbw
    by_cases hjn : j < n0
    · have hjl : j < la.length := by rw [HA.out.2.2]; exact hjn
      obtain ⟨b, off, rfl, hlt, p0, p1, p2⟩ := hra'.act HA.out.2.2 hjn
      obtain ⟨y, hy⟩ : ∃ y, la[j] = y := ⟨_, rfl⟩
      have hyb := HGA.out la[j] (List.getElem_mem hjl)
      rw [hy] at p0 p1 p2 hyb
      obtain ⟨ak, an, ad⟩ := y
      simp only at p0 p1 p2 hyb
      obtain ⟨hyb1, hyb2⟩ := hyb
      clear hy
      obtain ⟨q1, hq1⟩ : ∃ q, Pl.okName an = q := ⟨_, rfl⟩
      have hmn := fun w => rName_any an w
      rw [hq1] at hmn
      have HM := Lib.hid (And.intro hmn hq1); clear hmn hq1
      have hm1 : m1 ≤ 100 := by have := HJ.out.1.fat; rw [HJ.out.2.2] at this; exact this
      have hb5 := (Below.refl wr.heap.size wr).alloc (Nat.le_refl _) (.cells #[.int .i64 ak, .string ⟨an.toArray⟩, .string ⟨ad.toArray⟩] 46)
      have hxo := hx
      have hbwo := hbw
      replace hx := hx.below hb5
      replace hbw := hbw.trans (hb5.mono hbw.size)
      have HB := Lib.hid (show (wr.alloc (.cells #[.int .i64 ak, .string ⟨an.toArray⟩, .string ⟨ad.toArray⟩] 46)).heap[wr.heap.size]? = some (.cells #[.int .i64 ak, .string ⟨an.toArray⟩, .string ⟨ad.toArray⟩] 46 (0, 0)) from heap_alloc_new wr _)
      obtain ⟨q2, hq2⟩ : ∃ q, (an == nm) = q := ⟨_, rfl⟩
      cases q1 with
      | false =>
        go_wp2_with fail
        (with_reducible refine (HM.out.1 _).mono ?_)
        rintro e w5 ⟨rfl, rfl⟩
        go_wp2_with fail
        go_roundw
        case rel => exact ⟨j + 1, ls, Fs, A1, n1, c1, A1', m1, c1', by omega, by go_num, rfl, hx, ⟨HJ.out.1.step, HJ.out.2⟩, hbw⟩
        case measure => simp [intOf]; omega
      | true =>
      cases q2 with
      | true =>
        go_wp2_with fail
        (with_reducible refine (HM.out.1 _).mono ?_)
        rintro e w5 ⟨rfl, rfl⟩
        go_wp2_with fail
        go_roundw
        case rel => exact ⟨j + 1, ls, Fs, A1, n1, c1, A1', m1, c1', by omega, by go_num, rfl, hx, ⟨HJ.out.1.step, HJ.out.2⟩, hbw⟩
        case measure => simp [intOf]; omega
      | false =>
      have hne : an ≠ nm := fun h => by rw [h] at hq2; simp at hq2
      have HNE := Lib.hid hne; clear hne
      go_wp2_with fail
      (with_reducible refine (HM.out.1 _).mono ?_)
      rintro e w5 ⟨rfl, hw5⟩
      rw [hw5] at hx hbw HB hb5
      clear hw5 hxo hbwo
      have b0 := cell_row w5 _ 0 _ _ HB.out
      have b1 := cell_row w5 _ 1 _ _ HB.out
      have b2 := cell_row w5 _ 2 _ _ HB.out
      simp only [List.getElem?_toArray, List.getElem?_cons_succ, List.getElem?_cons_zero] at b0 b1 b2
      have x0 := hx.c0
      have x1 := hx.c1
      by_cases k0 : ak = 0
      · subst k0
        go_wp2_with fail
        (with_reducible refine (put_all A1 A1' c1 c1' ls Fs an ad w5 n1 m1 HJ.out.2.1 HJ.out.2.2 hx.obj hx.fat (HJ.out.1.fit (by omega)) (by omega)).mono ?_)
        rintro e w6 ⟨v, rfl, ⟨A6, c6, D6, d6, rfl, ho6, hf6⟩, hb6⟩
        have hinv := Pl.inv_put (d := ad) HJ.out.1 HM.out.2 HNE.out hyb2
        obtain ⟨l2, hl2⟩ : ∃ x, (Pl.putA ls Fs an ad).1 = x := ⟨_, rfl⟩
        obtain ⟨F2, hF2⟩ : ∃ x, (Pl.putA ls Fs an ad).2.1 = x := ⟨_, rfl⟩
        obtain ⟨n2, hn2⟩ : ∃ x, l2.length = x := ⟨_, rfl⟩
        obtain ⟨m2, hm2⟩ : ∃ x, F2.length = x := ⟨_, rfl⟩
        rw [hF2] at hf6 hinv
        generalize (Pl.putA ls Fs an ad).2.2 = gc
        rw [hm2] at hf6
        rw [hF2, hm2]
        rw [hl2] at ho6 hinv ⊢
        rw [hn2] at ho6 ⊢
        have hmm : m1 = 0 ∧ m2 = 0 ∨ m1 = m2 + 1 := by have := congrArg List.length hinv.2; rw [hm2, List.length_tail, HJ.out.2.2] at this; omega
        have HJ2 := Lib.hid (And.intro hinv.1 (And.intro hn2 hm2)); clear hinv hl2 hF2 hn2 hm2
        replace hx := hx.below hb6
        clear x0 x1
        have x0 := hx.c0
        have x1 := hx.c1
        have xf := hx.fz
        replace hx := hx.store ho6 hf6
        replace hbw := ((hbw.trans (hb6.mono hbw.size)).setCell (p := ⟨w.heap.size, 0, none⟩) (Nat.le_refl _) (.slice A6 n2 c6)).setCell (p := ⟨w.heap.size, 1, none⟩) (Nat.le_refl _) (.slice D6 m2 d6)
        rcases hmm with ⟨rfl, rfl⟩ | rfl
        all_goals
          go_wp2_with fail
          go_roundw
          case rel => exact ⟨j + 1, l2, F2, A6, n2, c6, D6, _, d6, by omega, by go_num, by first | rfl | go_num, hx, HJ2.out, hbw⟩
          case measure => simp [intOf]; omega
      have k0' : (ak == 0) = false := beq_eq_false_iff_ne.2 k0
      by_cases k1 : ak = 1
      · subst k1
        go_wp2_with fail
        (with_reducible refine (get_all A1 A1' c1 c1' ls Fs an w5 n1 m1 HJ.out.2.1 HJ.out.2.2 hx.obj hx.fat (HJ.out.1.fit (by omega))).mono ?_)
        rintro e w6 ⟨v, rfl, ⟨A6, c6, D6, d6, rfl, ho6, hf6⟩, hb6⟩
        have hinv := Pl.inv_get HJ.out.1 HM.out.2
        obtain ⟨l2, hl2⟩ : ∃ x, ls = x := ⟨_, rfl⟩
        obtain ⟨F2, hF2⟩ : ∃ x, (Pl.getA ls Fs an).1 = x := ⟨_, rfl⟩
        obtain ⟨n2, hn2⟩ : ∃ x, l2.length = x := ⟨_, rfl⟩
        obtain ⟨m2, hm2⟩ : ∃ x, F2.length = x := ⟨_, rfl⟩
        rw [hF2] at hf6 hinv
        generalize (Pl.getA ls Fs an).2.1 = gb
        generalize (Pl.getA ls Fs an).2.2 = gc
        rw [hm2] at hf6
        rw [hF2, hm2]
        rw [hl2] at ho6 hinv ⊢
        rw [hn2] at ho6 ⊢
        have hmm : m1 = 0 ∧ m2 = 0 ∨ m1 = m2 + 1 := by have := congrArg List.length hinv.2; rw [hm2, List.length_tail, HJ.out.2.2] at this; omega
        have HJ2 := Lib.hid (And.intro hinv.1 (And.intro hn2 hm2)); clear hinv hl2 hF2 hn2 hm2
        replace hx := hx.below hb6
        clear x0 x1
        have x0 := hx.c0
        have x1 := hx.c1
        have xf := hx.fz
        replace hx := hx.store ho6 hf6
        replace hbw := ((hbw.trans (hb6.mono hbw.size)).setCell (p := ⟨w.heap.size, 0, none⟩) (Nat.le_refl _) (.slice A6 n2 c6)).setCell (p := ⟨w.heap.size, 1, none⟩) (Nat.le_refl _) (.slice D6 m2 d6)
        rcases hmm with ⟨rfl, rfl⟩ | rfl
        all_goals
          go_wp2_with fail
          go_roundw
          case rel => exact ⟨j + 1, l2, F2, A6, n2, c6, D6, _, d6, by omega, by go_num, by first | rfl | go_num, hx, HJ2.out, hbw⟩
          case measure => simp [intOf]; omega
      have k1' : (ak == 1) = false := beq_eq_false_iff_ne.2 k1
      by_cases k2 : ak = 2
      · subst k2
        go_wp2_with fail
        (with_reducible refine (drop_all A1 A1' c1 c1' ls Fs an w5 n1 m1 HJ.out.2.1 HJ.out.2.2 hx.obj hx.fat (HJ.out.1.fit (by omega))).mono ?_)
        rintro e w6 ⟨v, rfl, ⟨A6, c6, D6, d6, rfl, ho6, hf6⟩, hb6⟩
        have hinv := Pl.inv_drop HJ.out.1 HM.out.2 HNE.out
        obtain ⟨l2, hl2⟩ : ∃ x, (Pl.dropA ls Fs an).1 = x := ⟨_, rfl⟩
        obtain ⟨F2, hF2⟩ : ∃ x, (Pl.dropA ls Fs an).2.1 = x := ⟨_, rfl⟩
        obtain ⟨n2, hn2⟩ : ∃ x, l2.length = x := ⟨_, rfl⟩
        obtain ⟨m2, hm2⟩ : ∃ x, F2.length = x := ⟨_, rfl⟩
        rw [hF2] at hf6 hinv
        generalize (Pl.dropA ls Fs an).2.2 = gc
        rw [hm2] at hf6
        rw [hF2, hm2]
        rw [hl2] at ho6 hinv ⊢
        rw [hn2] at ho6 ⊢
        have hmm : m1 = 0 ∧ m2 = 0 ∨ m1 = m2 + 1 := by have := congrArg List.length hinv.2; rw [hm2, List.length_tail, HJ.out.2.2] at this; omega
        have HJ2 := Lib.hid (And.intro hinv.1 (And.intro hn2 hm2)); clear hinv hl2 hF2 hn2 hm2
        replace hx := hx.below hb6
        clear x0 x1
        have x0 := hx.c0
        have x1 := hx.c1
        have xf := hx.fz
        replace hx := hx.store ho6 hf6
        replace hbw := ((hbw.trans (hb6.mono hbw.size)).setCell (p := ⟨w.heap.size, 0, none⟩) (Nat.le_refl _) (.slice A6 n2 c6)).setCell (p := ⟨w.heap.size, 1, none⟩) (Nat.le_refl _) (.slice D6 m2 d6)
        rcases hmm with ⟨rfl, rfl⟩ | rfl
        all_goals
          go_wp2_with fail
          go_roundw
          case rel => exact ⟨j + 1, l2, F2, A6, n2, c6, D6, _, d6, by omega, by go_num, by first | rfl | go_num, hx, HJ2.out, hbw⟩
          case measure => simp [intOf]; omega
      have k2' : (ak == 2) = false := beq_eq_false_iff_ne.2 k2
      clear k0 k1 k2
      go_wp2_with fail
      (with_reducible refine (names_all A1 A1' c1 c1' ls Fs an w5 n1 m1 HJ.out.2.1 HJ.out.2.2 hx.obj hx.fat (HJ.out.1.fit (by omega))).mono ?_)
      rintro e w6 ⟨v, rfl, ⟨A6, c6, D6, d6, An6, cn6, rfl, ho6, hf6, hs6⟩, hb6⟩
      have hinv := Pl.inv_names (nm := an) HJ.out.1
      obtain ⟨l2, hl2⟩ : ∃ x, ls = x := ⟨_, rfl⟩
      obtain ⟨F2, hF2⟩ : ∃ x, (Pl.namesA ls Fs an).1 = x := ⟨_, rfl⟩
      obtain ⟨n2, hn2⟩ : ∃ x, l2.length = x := ⟨_, rfl⟩
      obtain ⟨m2, hm2⟩ : ∃ x, F2.length = x := ⟨_, rfl⟩
      rw [hF2] at hf6 hinv
      generalize (Pl.namesA ls Fs an).2.1 = gb
      generalize (Pl.namesA ls Fs an).2.2 = gc
      rw [hm2] at hf6
      rw [hF2, hm2]
      rw [hl2] at ho6 hinv ⊢
      rw [hn2] at ho6 ⊢
      have hmm : m1 = 0 ∧ m2 = 0 ∨ m1 = m2 + 1 := by have := congrArg List.length hinv.2; rw [hm2, List.length_tail, HJ.out.2.2] at this; omega
      have HJ2 := Lib.hid (And.intro hinv.1 (And.intro hn2 hm2)); clear hinv hl2 hF2 hn2 hm2
      replace hx := hx.below hb6
      clear x0 x1
      have x0 := hx.c0
      have x1 := hx.c1
      have xf := hx.fz
      replace hx := hx.store ho6 hf6
      replace hbw := ((hbw.trans (hb6.mono hbw.size)).setCell (p := ⟨w.heap.size, 0, none⟩) (Nat.le_refl _) (.slice A6 n2 c6)).setCell (p := ⟨w.heap.size, 1, none⟩) (Nat.le_refl _) (.slice D6 m2 d6)
      rcases hmm with ⟨rfl, rfl⟩ | rfl
      all_goals
        go_wp2_with fail
        go_roundw
        case rel => exact ⟨j + 1, l2, F2, A6, n2, c6, D6, _, d6, by omega, by go_num, by first | rfl | go_num, hx, HJ2.out, hbw⟩
        case measure => simp [intOf]; omega
    · obtain rfl : j = n0 := by omega
      have x0 := hx.c0
      have x1 := hx.c1
      go_wp2_with fail
      (with_reducible refine (honest_any _ _ _ _ _ _ _).mono ?_)
      rintro e w5 ⟨v, rfl, ⟨A5, c5, rfl, hs5⟩, hb5⟩
      replace hx := hx.below hb5
      replace hbw := hbw.trans (hb5.mono hbw.size)
      clear x0 x1
      go_wp2_with fail
      (with_reducible refine (HGT.out j ls n1 Fs HJ.out.1 (by omega) HJ.out.2.1 _ _ _ _ _ hx.obj hs5).mono ?_)
      rintro e w6 ⟨v, rfl, ⟨A6, c6, D6, d6, rfl, ho6, hf6⟩, hb6⟩
      simp only [HJ.out.2.1, List.length_nil] at ho6 hf6 ⊢
      have hc6 := hb6.alloc hb6.size (.cells #[.slice A6 n1 c6, .slice D6 0 d6] 25)
      replace hbw := hbw.trans (hc6.mono hbw.size)
      go_wp2_with fail
      (with_reducible refine (awake_any _).mono ?_)
      rintro e wa9 ⟨v, rfl, rfl, hba9⟩
      go_wp2_with fail
      go_ret
      exact ⟨_, rfl, rfl, hbw.trans (hba9.mono hbw.size)⟩
-- FRAME
set_option maxRecDepth 100000 in
theorem shelfCalls_lifted (os : Os) (started : os.Started) (H : Type) (enc : TypeId × Value → H) :
    ReturnsInHanded {} Try.checked os 7 .any (Rows.shelfCallsSpec.pre6 enc Try.prog Try.f7 Rows.shelfCallsRow.domain false) (Rows.shelfCallsSpec.post enc Try.prog Try.f7 false true false false) := by
  refine returnsInHanded_of_change_sized (C := Try.checked) own started (by kernel_rfl) Try.func7
    (ChangeSpec.witness6 (enc := enc) (C := Try.checked) false ⟨#[], #[.agg #[.slice none 0 0, .slice none 0 0], .slice none 0 0, .string ⟨#[]⟩], []⟩ 8 (by kernel_rfl) (by kernel_rfl) (by kernel_rfl) (by kernel_rfl)) ?_
  intro W base args ds gs before hval0 hW hcnd hsz0 _
  have hval : ∀ (j : Nat) t v, Try.f7.params[j]? = some t → args[j]? = some v → Value.okWide Try.prog W .any base t v := hval0
  have hW' := hW
  obtain ⟨p, q, hA0, hV, rfl, hfz, hnd⟩ := hW
  have hA : DataW.TrodAll enc Try.prog W 0 (fun _ => true) true Try.f7.params.toList args.toList ds p := hA0
  have hsz : (DataW.weightsEach Try.prog (Try.f7.params.toList ++ Rows.shelfCallsSpec.plain.varTypes Try.prog) (ds ++ gs)).all (· ≤ reachBytes) = true := hsz0
  rw [Try.params7] at hA hval hsz
  obtain ⟨v0, vs0, d0, ds0, p0, q0, hargs, rfl, rfl, h0, r0⟩ := trodAll_cons hA
  obtain ⟨v1, vs1, d1, ds1, p1, q1, rfl, rfl, rfl, h1, r1⟩ := trodAll_cons r0
  obtain ⟨v2, vs2, d2, ds2, p2, q2, rfl, rfl, rfl, h2, r2⟩ := trodAll_cons r1
  obtain ⟨rfl, rfl, rfl⟩ := trodAll_nil r2
  obtain rfl : args = #[v0, v1, v2] := by cases args; simp_all
  obtain ⟨rfl, rfl⟩ := trodVars_none hV
  have k0 := h0
  have lt0 : ∀ x ∈ p0, x.block < W.heap.size := by obtain ⟨m, hm⟩ := k0; exact DataW.trod_lt m _ _ _ hm
  have hz0 : ∀ m ∈ d0.weights Try.prog 25, m ≤ reachBytes := fun m hm => by
    have h1 := List.all_eq_true.1 hsz m (DataW.weights_mem_each (j := 0) rfl rfl m hm)
    simpa using h1
  obtain ⟨A0, B0, n0, c0, m0, cc0, l0, F0, rfl, eA0, eB0, eC0, eD0, eE0, eF0⟩ := open_shelf (hval 0 25 v0 rfl rfl) h0 hz0
  have k1 := h1
  have lt1 : ∀ x ∈ p1, x.block < W.heap.size := by obtain ⟨m, hm⟩ := k1; exact DataW.trod_lt m _ _ _ hm
  have hz1 : ∀ m ∈ d1.weights Try.prog 43, m ≤ reachBytes := fun m hm => by
    have h1 := List.all_eq_true.1 hsz m (DataW.weights_mem_each (j := 1) rfl rfl m hm)
    simpa using h1
  obtain ⟨A1, n1, c1, l1, rfl, eA1, eB1, eC1⟩ := open_acts (hval 1 43 v1 rfl rfl) h1 hz1
  have k2 := h2
  have lt2 : ∀ x ∈ p2, x.block < W.heap.size := by obtain ⟨m, hm⟩ := k2; exact DataW.trod_lt m _ _ _ hm
  have hz2 : ∀ m ∈ d2.weights Try.prog 9, m ≤ reachBytes := fun m hm => by
    have h1 := List.all_eq_true.1 hsz m (DataW.weights_mem_each (j := 2) rfl rfl m hm)
    simpa using h1
  obtain ⟨l2, rfl, eA2⟩ := open_str (hval 2 9 v2 rfl rfl) h2 hz2
  clear hA0 hval0 hsz0
  refine (shelfCalls_walk A0 B0 n0 c0 m0 cc0 l0 F0 A1 n1 c1 l1 l2 W eA0 eB0 eC0 eD0 eE0 eF0 eA1 eB1 eC1 ).mono fun e W' ⟨v, he, hv, bel⟩ => ?_
  subst he hv
  exact ⟨_, rfl, _, _, _, [], _, [], hW', trodAll_mk1 (shut_bool Try.underlying4 _), (trodAll_cons_mk (Below.trod laidOut (by kernel_rfl) (of_decide_eq_true (by kernel_rfl)) k0 bel lt0) (trodAll_cons_mk (Below.trod laidOut (by kernel_rfl) (of_decide_eq_true (by kernel_rfl)) k1 bel lt1) (trodAll_cons_mk (Below.trod laidOut (by kernel_rfl) (of_decide_eq_true (by kernel_rfl)) k2 bel lt2) trodAll_mk0))), rfl, bel.frame _, fun h => by cases h⟩

theorem shelfCalls_holds : Rows.ShelfCallsSaid :=
  OpenClaim.holds_of_wide 7 Try.f7 rfl rfl rfl rfl rfl rfl rfl ⟨rfl, rfl, rfl, rfl, rfl⟩ rfl rfl rfl rfl rfl (by kernel_rfl) Try.func7 (by kernel_rfl)
    (of_decide_eq_true (by kernel_rfl)) (by unfold Func.isWrapper; first | (rw [if_pos (by decide +kernel)]; kernel_rfl) | (rw [if_neg (by decide +kernel)]; exact ⟨rfl, rfl⟩))
    (fun os started H enc _ => shelfCalls_lifted os started H enc)
#print axioms shelfCalls_holds
end Go.Proofs.Ytnapokalopcdkaa
