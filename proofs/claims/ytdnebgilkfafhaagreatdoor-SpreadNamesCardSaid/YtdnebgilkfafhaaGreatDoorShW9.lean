/- The walk of shelf.Put. The walk of shelf.Drop. -/
import Derived.Test.YtdnebgilkfafhaaGreatDoorShIns
import Derived.Test.YtdnebgilkfafhaaGreatDoorShPlain
namespace Go.Proofs.YtdnebgilkfafhaaGreatDoor
open Go.RowKit
set_option linter.unusedVariables false
set_option linter.unusedSimpArgs false

/-- What Put and Drop answer. -/
def PutOut (b0 : Nat) (l : List Pl.Obj) (F : List Int) (e : Nat) (v : Value) (w : World) : Prop :=
  ∃ A c A' c', v = .tuple #[.agg #[.slice A l.length c, .slice A' F.length c'], .int .i64 (e : Int)] ∧ SlO b0 w A l.length c l ∧ SlF b0 w A' F.length c' F
theorem insert_any (base : Nat) (A : Option Addr) (n c i : Nat) (l : List Pl.Obj) (o : Pl.Obj) (H : Nat) (w : World) (hl : l.length = n) (hown : w.ownsRow base 49 4 (.slice A n c) n (objCs l)) (hH : w.heap[H]? = some (.cells (objC o).toArray 49 (0, 0))) (hn : n ≤ 2513169434900) (hbase : base ≤ w.heap.size)
    (hin : i ≤ n) (hAH : A.map Addr.block ≠ some H) :
    Calls Tryz.prog 114 #[.slice A n c, .int .i64 (i : Int), .slice (some ⟨H, 0, none⟩) 1 1] w (InsOut base A w (insL l i o)) := by
  rcases Nat.lt_or_ge i n with h | h
  · rcases Nat.lt_or_ge c (n + 1) with h2 | h2
    · exact insert_grow base A n c i l o H w hl hown hH hn hbase h h2
    · exact insert_room base A n c i l o H w hl hown hH hn hbase h h2 hAH
  · obtain rfl : i = n := by omega
    exact insert_end base A i c l o H w hl hown hH hn hbase
set_option maxRecDepth 100000 in
set_option maxHeartbeats 2000000 in
theorem put_bad (A A' : Option Addr) (n c m c' : Nat) (l : List Pl.Obj) (F : List Int) (nm d : List UInt8) (w : World) (hl : l.length = n) (hF : F.length = m) (hr : SlAt w 4 A n c (objCs l)) (hr' : SlAt w 1 A' m c' (ints F)) (hn : n ≤ 2513169434900) (hm : m ≤ 17592186044000) (hd : d.length ≤ 1000000)
    (k : Nat) (hk : (Pl.askE l nm ≠ 0 ∧ k = Pl.askE l nm) ∨ (Pl.askE l nm = 0 ∧ 65536 < d.length ∧ k = 6)) :
    Calls Tryz.prog 76 #[.agg #[.slice A n c, .slice A' m c'], .string ⟨nm.toArray⟩, .string ⟨d.toArray⟩] w (RetB (PutOut w.heap.size l F k) w) := by
  obtain ⟨E, hE⟩ : ∃ E, Pl.askE l nm = E := ⟨_, rfl⟩
  rw [hE] at hk
  have hco := fun w h h' => copied_any A A' n c m c' l F w hl hF h h' hn hm
  have has := fun A A' c c' w h => asked_any A A' n c m c' l nm w hl h hn
  rw [hE] at has
  have HC := Lib.hid (And.intro hco (And.intro has (And.intro hl hF))); clear hco has hl hF hE
  go_enter Tryz.func76, Tryz.ntmps76
  go_wp2_with fail
  have hb0 := bx_new w A A' n c m c'
  obtain ⟨V, hV⟩ : ∃ V, (w.alloc (.cells #[.slice A n c, .slice A' m c'] 26)).alloc (.cells #[.slice none 0 0, .slice none 0 0] 26) = V := ⟨_, rfl⟩
  rw [hV] at hb0 ⊢
  clear hV
  (with_reducible refine (HC.out.1 V (hr.below hb0.bel) (hr'.below hb0.bel)).mono ?_)
  rintro e w1 ⟨v, rfl, ⟨A1, c1, A2, c2, rfl, ho1, ho2⟩, hb1⟩
  rw [HC.out.2.2.1] at ho1 ⊢
  rw [HC.out.2.2.2] at ho2 ⊢
  have hx1 := hb0.below hb1
  obtain ⟨x0, x1, r0, r1, xf, rf⟩ := hx1.cells
  have hsz := hb0.siz
  have hof := own_off ho2 (B := w.heap.size) (by omega)
  have hof1 := own_off ho2 (B := w.heap.size + 1) (by omega)
  have hp := hx1.put (own_base ho1 (by omega)) (own_sl ho2) hof hof1 (own_ty ho2)
  go_wp2_with fail
  obtain ⟨W, hW⟩ : ∃ W, (w1.setCell ⟨w.heap.size, 0, none⟩ (.slice A1 n c1)).setCell ⟨w.heap.size, 1, none⟩ (.slice A2 m c2) = W := ⟨_, rfl⟩
  rw [hW] at hp ⊢
  clear hW x0 x1 r0 r1 xf rf ho1 ho2 hx1
  (with_reducible refine (HC.out.2.1 _ _ _ _ _ (Rd.own hp.obj)).mono ?_)
  rintro e w2 ⟨v, rfl, rfl, hb2⟩
  have hp2 := hp.below hb2
  obtain ⟨x0, x1, r0, r1, xf, rf⟩ := hp2.cells
  rcases hk with ⟨h0, rfl⟩ | ⟨rfl, hlong, rfl⟩
  · have q1 : ((k : Int) == 0) = false := beq_eq_false_iff_ne.2 (by omega)
    have q2 : ((k : Int) != 0) = true := by simp; omega
    go_wp2_with fail
    refine bodyPost_ret (v := .tuple #[.agg #[.slice A1 n c1, .slice A2 m c2], .int .i64 (k : Int)]) (by simp [results, Tryz.results76, go_sem, r0, r1]) rfl ?_
    obtain ⟨g1, g2, g3⟩ := hp2.ret
    refine ⟨_, rfl, ⟨A1, c1, A2, c2, ?_, ?_, ?_⟩, g3⟩
    · rw [HC.out.2.2.1, HC.out.2.2.2]
    · rw [HC.out.2.2.1]; exact g1
    · rw [HC.out.2.2.2]; exact g2
  · go_wp2_with fail
    refine bodyPost_ret (v := .tuple #[.agg #[.slice A1 n c1, .slice A2 m c2], .int .i64 6]) (by simp [results, Tryz.results76, go_sem, r0, r1]) rfl ?_
    obtain ⟨g1, g2, g3⟩ := hp2.ret
    refine ⟨_, rfl, ⟨A1, c1, A2, c2, ?_, ?_, ?_⟩, g3⟩
    · rw [HC.out.2.2.1, HC.out.2.2.2]; rfl
    · rw [HC.out.2.2.1]; exact g1
    · rw [HC.out.2.2.2]; exact g2

theorem SlAt.oth {W W' : World} {k : Nat} {A A' : Option Addr} {n c : Nat} {xs : List Value} (h : SlAt W k A' n c xs) (hO : Oth A W W') (hs : W.heap.size ≤ W'.heap.size) (hd : ∀ g, A'.map Addr.block = some g → A.map Addr.block ≠ some g) : SlAt W' k A' n c xs := by
  refine ⟨⟨h.1.1, fun hn => ?_⟩, h.2⟩
  obtain ⟨b, off, rfl, hb, hc⟩ := h.1.2 hn
  refine ⟨b, off, rfl, Nat.lt_of_lt_of_le hb hs, fun j hj => ?_⟩
  rw [World.cell?_of_block (hO b hb (hd b rfl))]
  exact hc j hj
theorem FTy.oth {b : Nat} {W W' : World} {A A' : Option Addr} (h : FTy b A' W) (hO : Oth A W W') (hd : ∀ g, A'.map Addr.block = some g → A.map Addr.block ≠ some g) : FTy b A' W' := fun g hg => by
  obtain ⟨hb0, C, hC⟩ := h g hg
  exact ⟨hb0, C, (hO g (blk_lt hC) (hd g hg)).trans hC⟩
theorem Bx.dis {w0 W : World} {B : Nat} {l : List Pl.Obj} {F : List Int} {A A' : Option Addr} {n c m c' : Nat} (h : Bx w0 B l F A n c A' m c' W) : ∀ g, A'.map Addr.block = some g → A.map Addr.block ≠ some g := by
  intro g hg hA
  obtain ⟨-, C, hC⟩ := h.fty g hg
  rcases h.obj.2 with ⟨h1, -⟩ | ⟨g', cap, cur, h1, -, h2, -⟩
  · injection h1 with h1; subst h1; cases hA
  · injection h1 with h1; subst h1
    simp only [Option.map_some, Option.some.injEq] at hA
    subst hA
    rw [hC] at h2
    injection h2 with h2
    injection h2 with _ h3
    exact absurd h3 (by decide)
/-- The objects' row was made anew, or written: the shelf's variable takes it. -/
theorem Bx.put0 {w0 W W' : World} {B : Nat} {l l1 : List Pl.Obj} {F : List Int} {A A' A1 : Option Addr} {n c m c' n1 c1 : Nat} (h : Bx w0 B l F A n c A' m c' W) (ho : W'.ownsRow (B + 2) 49 4 (.slice A1 n1 c1) n1 (objCs l1)) (hb : Below (B + 2) W W') (hO : Oth A W W') :
    Bx w0 B l1 F A1 n1 c1 A' m c' (W'.setCell ⟨B, 0, none⟩ (.slice A1 n1 c1)) where
  box := set_at _ _ 0 _ _ _ ((hb.block _ (by omega)).trans h.box)
  res := (Below.heap_setCell _ _ _ _ (by simp)).trans ((hb.block _ (by omega)).trans h.res)
  bel := (h.bel.trans (hb.mono (by omega))).setCell (Nat.le_refl _) _
  siz := by have := h.siz; have := hb.size; simp [World.size_setCell]; omega
  obj := own_set ho (by omega) _ _
  fat := (h.fat.oth hO hb.size h.dis).set h.of0 _ _
  of0 := h.of0
  of1 := h.of1
  fty := (h.fty.oth hO h.dis).set h.of0 _ _
theorem Bx.setObj {w0 W : World} {B g : Nat} {l : List Pl.Obj} {F : List Int} {A' : Option Addr} {n c m c' : Nat} (h : Bx w0 B l F (some ⟨g, 0, none⟩) n c A' m c' W) (hl : l.length = n) {i : Nat} (hi : i < n) (o : Pl.Obj) :
    Bx w0 B (l.set i o) F (some ⟨g, 0, none⟩) n c A' m c' ((((W.setCell ⟨g, i * 4, none⟩ (.string ⟨o.name.toArray⟩)).setCell ⟨g, i * 4 + 1, none⟩ (.string ⟨o.data.toArray⟩)).setCell ⟨g, i * 4 + 2, none⟩ (.string ⟨o.was.toArray⟩)).setCell ⟨g, i * 4 + 3, none⟩ (.bool o.had)) := by
  have n0 : B ≠ g := by have := own_off h.obj (B := B) (by omega); simpa using Ne.symm this
  have n1 : B + 1 ≠ g := by have := own_off h.obj (B := B + 1) (by omega); simpa using Ne.symm this
  have hg : B + 2 ≤ g := by
    rcases h.obj.2 with ⟨h1, -⟩ | ⟨g', cap, cur, h1, h2, -⟩
    · injection h1 with h1; cases h1
    · injection h1 with h1; injection h1 with h1; injection h1 with h1 _; subst h1; exact h2
  have hA : A'.map Addr.block ≠ some g := fun e => h.dis g e rfl
  have hk : ∀ b, b ≠ g → ((((W.setCell ⟨g, i * 4, none⟩ (.string ⟨o.name.toArray⟩)).setCell ⟨g, i * 4 + 1, none⟩ (.string ⟨o.data.toArray⟩)).setCell ⟨g, i * 4 + 2, none⟩ (.string ⟨o.was.toArray⟩)).setCell ⟨g, i * 4 + 3, none⟩ (.bool o.had)).heap[b]? = W.heap[b]? := fun b hb =>
    (Below.heap_setCell _ _ _ _ hb).trans ((Below.heap_setCell _ _ _ _ hb).trans ((Below.heap_setCell _ _ _ _ hb).trans (Below.heap_setCell _ _ _ _ hb)))
  exact { box := (hk B n0).trans h.box, res := (hk _ n1).trans h.res, bel := (((h.bel.setCell (by simp; omega) _).setCell (by simp; omega) _).setCell (by simp; omega) _).setCell (by simp; omega) _, siz := by have := h.siz; simpa [World.size_setCell] using this, obj := own_obj_set h.obj hl hi o, fat := (((h.fat.set hA _ _).set hA _ _).set hA _ _).set hA _ _, of0 := h.of0, of1 := h.of1, fty := (((h.fty.set hA _ _).set hA _ _).set hA _ _).set hA _ _ }
set_option maxRecDepth 100000 in
set_option maxHeartbeats 4000000 in
theorem put_good (A A' : Option Addr) (n c m c' : Nat) (l : List Pl.Obj) (F : List Int) (nm d : List UInt8) (w : World) (hl : l.length = n) (hF : F.length = m) (hr : SlAt w 4 A n c (objCs l)) (hr' : SlAt w 1 A' m c' (ints F)) (hn : n ≤ 2513169434900) (hm : m ≤ 17592186044000)
    (hok : Pl.askE l nm = 0) (hd : d.length ≤ 65536) :
    Calls Tryz.prog 76 #[.agg #[.slice A n c, .slice A' m c'], .string ⟨nm.toArray⟩, .string ⟨d.toArray⟩] w (RetB (PutOut w.heap.size (Pl.putR l (F.headD 0) nm d).1 F.tail (Pl.putR l (F.headD 0) nm d).2) w) := by
  have hris : Pl.Rising l := Pl.chk_rising (Pl.askE_ok hok).1
  have hco := fun w h h' => copied_any A A' n c m c' l F w hl hF h h' hn hm
  have has := fun A A' c c' w h => asked_any A A' n c m c' l nm w hl h hn
  have htk := fun A A' c c' w h => taken_any A A' n c m c' F w hF h
  have hfd := fun A A' c m c' w h => find_any A A' n c m c' l nm w hl h hn hris
  have hfl := fun w => flipped_any d w (by omega)
  rw [hok] at has
  obtain ⟨f, hf⟩ : ∃ f, F.headD 0 = f := ⟨_, rfl⟩
  obtain ⟨T, hT⟩ : ∃ T, F.tail = T := ⟨_, rfl⟩
  obtain ⟨R, hR⟩ : ∃ R, Pl.putR l f nm d = R := ⟨_, rfl⟩
  unfold TakenOut at htk
  simp only [hf, hT] at htk ⊢
  rw [hR]
  unfold Pl.putR at hR
  obtain ⟨fl, hfll⟩ : ∃ fl, Pl.flip d = fl := ⟨_, rfl⟩
  rw [hfll] at hfl hR
  have HC := Lib.hid (And.intro hco (And.intro has (And.intro htk (And.intro hfd (And.intro hl (And.intro hF (And.intro hris (And.intro hfl hR))))))))
  clear hco has htk hfd hl hF hok hris hf hT hR hfl hfll
  go_enter Tryz.func76, Tryz.ntmps76
  go_wp2_with fail
  have hb0 := bx_new w A A' n c m c'
  obtain ⟨V, hV⟩ : ∃ V, (w.alloc (.cells #[.slice A n c, .slice A' m c'] 26)).alloc (.cells #[.slice none 0 0, .slice none 0 0] 26) = V := ⟨_, rfl⟩
  rw [hV] at hb0 ⊢
  clear hV
  (with_reducible refine (HC.out.1 V (hr.below hb0.bel) (hr'.below hb0.bel)).mono ?_)
  rintro e w1 ⟨v, rfl, ⟨A1, c1, A2, c2, rfl, ho1, ho2⟩, hb1⟩
  rw [HC.out.2.2.2.2.1] at ho1 ⊢
  rw [HC.out.2.2.2.2.2.1] at ho2 ⊢
  have hx1 := hb0.below hb1
  obtain ⟨x0, x1, r0, r1, xf, rf⟩ := hx1.cells
  have hsz := hb0.siz
  have hof := own_off ho2 (B := w.heap.size) (by omega)
  have hof1 := own_off ho2 (B := w.heap.size + 1) (by omega)
  have hp := hx1.put (own_base ho1 (by omega)) (own_sl ho2) hof hof1 (own_ty ho2)
  go_wp2_with fail
  obtain ⟨W, hW⟩ : ∃ W, (w1.setCell ⟨w.heap.size, 0, none⟩ (.slice A1 n c1)).setCell ⟨w.heap.size, 1, none⟩ (.slice A2 m c2) = W := ⟨_, rfl⟩
  rw [hW] at hp ⊢
  clear hW x0 x1 r0 r1 xf rf ho1 ho2 hx1
  (with_reducible refine (HC.out.2.1 _ _ _ _ _ (Rd.own hp.obj)).mono ?_)
  rintro e w2 ⟨v, rfl, rfl, hb2⟩
  have hp2 := hp.below hb2
  obtain ⟨x0, x1, r0, r1, xf, rf⟩ := hp2.cells
  go_wp2_with fail
  (with_reducible refine (HC.out.2.2.1 _ _ _ _ _ hp2.fat).mono ?_)
  rintro e w3 ⟨v, rfl, ⟨A3, c3, rfl, hs3, hbk⟩, hb3⟩
  have hp3 := hp2.below hb3
  clear x0 x1 r0 r1 xf rf hp
  obtain ⟨x0, x1, r0, r1, xf, rf⟩ := hp3.cells
  have hq := hp3.toBx0.put hp3.obj hs3 (by rw [hbk]; exact hof) (by rw [hbk]; exact hof1) (by unfold FTy; rw [hbk]; exact hp3.fty)
  obtain ⟨t, ht⟩ : ∃ t, T.length = t := ⟨_, rfl⟩
  rw [ht] at hq ⊢
  have hR := HC.out.2.2.2.2.2.2.2.2
  by_cases h4 : f = 4
  · have HR := Lib.hid (show R = (l, 17) by rw [← hR, if_pos h4]); clear hR
    subst h4
    have HT := Lib.hid ht; clear ht
    go_wp2_with fail
    refine bodyPost_ret (v := .tuple #[.agg #[.slice A1 n c1, .slice A3 t c3], .int .i64 17]) (by simp [results, Tryz.results76, go_sem, r0, r1]) rfl ?_
    obtain ⟨g1, g2, g3⟩ := hq.ret
    refine ⟨_, rfl, ⟨A1, c1, A3, c3, ?_, ?_, ?_⟩, g3⟩
    · rw [HR.out, HC.out.2.2.2.2.1, HT.out]; rfl
    · rw [HR.out, HC.out.2.2.2.2.1]; exact g1
    · rw [HT.out]; exact g2
  have q4 : (f == 4) = false := beq_eq_false_iff_ne.2 h4
  by_cases h13 : f = 1 ∨ f = 3
  · have HR := Lib.hid (show R = (l, 0) by rw [← hR, if_neg h4, if_pos h13]); clear hR h4 q4
    have HT := Lib.hid ht; clear ht
    rcases h13 with rfl | rfl
    all_goals go_wp2_with fail
    all_goals refine bodyPost_ret (v := .tuple #[.agg #[.slice A1 n c1, .slice A3 t c3], .int .i64 0]) (by simp [results, Tryz.results76, go_sem, r0, r1]) rfl ?_
    all_goals obtain ⟨g1, g2, g3⟩ := hq.ret
    all_goals refine ⟨_, rfl, ⟨A1, c1, A3, c3, ?_, ?_, ?_⟩, g3⟩
    all_goals first
      | (rw [HR.out, HC.out.2.2.2.2.1, HT.out]; rfl)
      | (rw [HR.out, HC.out.2.2.2.2.1]; exact g1)
      | (rw [HT.out]; exact g2)
  have HT := Lib.hid ht; clear ht
  by_cases h2 : f = 2
  · have HR := Lib.hid (show R = (Pl.putL l nm fl, 0) by rw [← hR, if_neg h4, if_neg h13, if_pos h2]); clear hR h4 q4 h13
    subst h2
    go_wp2_with fail
    obtain ⟨W3, hW3⟩ : ∃ W, (w3.setCell ⟨w.heap.size, 0, none⟩ (.slice A1 n c1)).setCell ⟨w.heap.size, 1, none⟩ (.slice A3 t c3) = W := ⟨_, rfl⟩
    rw [hW3] at hq ⊢
    clear hW3 x0 x1 r0 r1 xf rf hp2 hp3
    (with_reducible refine (HC.out.2.2.2.2.2.2.2.1 _).mono ?_)
    rintro e w5 ⟨v, rfl, rfl, hb5'⟩
    have hq5' := hq.below hb5'
    obtain ⟨x0, x1, r0, r1, xf, rf⟩ := hq5'.cells
    go_wp2_with fail
    clear x0 x1 r0 r1 xf rf
    (with_reducible refine (HC.out.2.2.2.1 _ _ _ _ _ _ (Rd.own hq5'.obj)).mono ?_)
    rintro e w4 ⟨v, rfl, ⟨i, fd, rfl, hfd⟩, hb4⟩
    have hq4 := hq5'.below hb4
    have HF := Lib.hid hfd; clear hfd
    obtain ⟨x0, x1, r0, r1, xf, rf⟩ := hq4.cells
    cases fd with
    | false =>
      have hin : i ≤ n := by have := HF.out.le; have := HC.out.2.2.2.2.1; omega
      have hRR : R.1 = insL l i ⟨nm, fl, [], false⟩ ∧ R.2 = 0 := by
        rw [HR.out]; exact ⟨Pl.put_no HF.out HC.out.2.2.2.2.2.2.1 _, rfl⟩
      have HRR := Lib.hid hRR; clear hRR
      go_wp2_with fail
      have hsz4 := hq4.siz
      obtain ⟨W5, hW5⟩ : ∃ W5, w4.alloc (.cells #[.string ⟨nm.toArray⟩, .string ⟨fl.toArray⟩, .string ⟨#[]⟩, .bool false] 49) = W5 := ⟨_, rfl⟩
      have ho5 : W5.ownsRow (w.heap.size + 2) 49 4 (.slice A1 n c1) n (objCs l) := by rw [← hW5]; exact hq4.obj.alloc _
      have hH5 : W5.heap[w4.heap.size]? = some (.cells (objC ⟨nm, fl, [], false⟩).toArray 49 (0, 0)) := by rw [← hW5]; exact heap_alloc_new w4 _
      have hb5 : Below w4.heap.size w4 W5 := by rw [← hW5]; exact (Below.refl _ _).alloc (Nat.le_refl _) _
      rw [hW5]
      (with_reducible refine (insert_any (w.heap.size + 2) A1 n c1 i l ⟨nm, fl, [], false⟩ w4.heap.size _ HC.out.2.2.2.2.1 ho5 hH5 hn (by have := hb5.size; omega) hin ?_).mono ?_)
      · intro hA
        rcases hq4.obj.2 with ⟨h1, -⟩ | ⟨g, cap, cur, h1, -, h3, -⟩
        · injection h1 with h1; subst h1; cases hA
        · injection h1 with h1; subst h1
          simp only [Option.map_some, Option.some.injEq] at hA
          have := blk_lt h3
          omega
      rintro e w6 ⟨v, rfl, ho6, hb6, hO6⟩
      obtain ⟨A6, c6, rfl⟩ := own_form ho6
      have hq5 := hq4.below hb5
      have hq6 := hq5.put0 ho6 hb6 hO6
      have y0 : w6.cell? ⟨w.heap.size, 0, none⟩ = some (.slice A1 n c1) := (hb6.cell (p := ⟨w.heap.size, 0, none⟩) (by show w.heap.size < w.heap.size + 2; omega)).trans hq5.cells.1
      have yf : w6.frozen? ⟨w.heap.size, 0, none⟩ = false := (hb6.frozen (p := ⟨w.heap.size, 0, none⟩) (by show w.heap.size < w.heap.size + 2; omega)).trans (hq5.cells.2.2.2.2.1 0)
      have s0 : w6.cell? ⟨w.heap.size + 1, 0, none⟩ = some (.slice none 0 0) := (hb6.cell (p := ⟨w.heap.size + 1, 0, none⟩) (by show w.heap.size + 1 < w.heap.size + 2; omega)).trans hq5.cells.2.2.1
      have s1 : w6.cell? ⟨w.heap.size + 1, 1, none⟩ = some (.slice none 0 0) := (hb6.cell (p := ⟨w.heap.size + 1, 1, none⟩) (by show w.heap.size + 1 < w.heap.size + 2; omega)).trans hq5.cells.2.2.2.1
      have s2 : w6.cell? ⟨w.heap.size, 1, none⟩ = some (.slice A3 t c3) := (hb6.cell (p := ⟨w.heap.size, 1, none⟩) (by show w.heap.size < w.heap.size + 2; omega)).trans hq5.cells.2.1
      have sf : ∀ j, w6.frozen? ⟨w.heap.size + 1, j, none⟩ = false := fun j => (hb6.frozen (p := ⟨w.heap.size + 1, j, none⟩) (by show w.heap.size + 1 < w.heap.size + 2; omega)).trans (hq5.cells.2.2.2.2.2 j)
      obtain ⟨k6, hk6⟩ : ∃ k, (insL l i ⟨nm, fl, [], false⟩).length = k := ⟨_, rfl⟩
      rw [hk6] at hq6 ⊢
      have HK6 := Lib.hid hk6; clear hk6
      go_wp2_with fail
      refine bodyPost_ret (v := .tuple #[.agg #[.slice A6 k6 c6, .slice A3 t c3], .int .i64 0]) (by simp [results, Tryz.results76, go_sem, s0, s1]) rfl ?_
      obtain ⟨g1, g2, g3⟩ := hq6.ret
      refine ⟨_, rfl, ⟨A6, c6, A3, c3, ?_, ?_, ?_⟩, g3⟩
      · rw [HRR.out.1, HRR.out.2, HK6.out, HT.out]; rfl
      · rw [HRR.out.1, HK6.out]; exact g1
      · rw [HT.out]; exact g2
    | true =>
      obtain ⟨hi, hput⟩ := Pl.put_yes HF.out HC.out.2.2.2.2.2.2.1 fl
      have hin : i < n := by have := HC.out.2.2.2.2.1; omega
      have hRR : R.1 = l.set i ⟨nm, fl, l[i].data, true⟩ ∧ R.2 = 0 := by rw [HR.out]; exact ⟨hput, rfl⟩
      clear hput
      obtain ⟨b, off, hA1, hltb, p0, p1, p2, p3⟩ := (Rd.own hq4.obj).obj HC.out.2.2.2.2.1 hin
      obtain ⟨g, hg0⟩ : ∃ g, A1 = some ⟨g, 0, none⟩ := by
        rcases hq4.obj.2 with ⟨-, h0⟩ | ⟨g, cap, cur, h1, -⟩
        · omega
        · injection h1 with h1; exact ⟨g, h1⟩
      rw [hg0] at hA1
      injection hA1 with hA1
      injection hA1 with hA2 hA3
      subst hA2 hA3 hg0
      simp only [Nat.zero_add] at p0 p1 p2 p3
      obtain ⟨od, hod⟩ : ∃ od, (l[i]'(by have := HC.out.2.2.2.2.1; omega)).data = od := ⟨_, rfl⟩
      rw [hod] at p1
      simp only [hod] at hRR
      have HRR := Lib.hid (And.intro hRR hod); clear hRR hod
      have hib : (0 : Int) ≤ (i : Int) := by omega
      have hib2 : (i : Int) < (n : Int) := by omega
      have hne : g ≠ w.heap.size := by have := own_off hq4.obj (B := w.heap.size) (by omega); simpa using this
      have hne1 : g ≠ w.heap.size + 1 := by have := own_off hq4.obj (B := w.heap.size + 1) (by omega); simpa using this
      have hfz : ∀ j, w4.frozen? ⟨g, j, none⟩ = false := by
        intro j
        rcases hq4.obj.2 with ⟨h1, -⟩ | ⟨g', cap, cur, h1, -, h3, -⟩
        · injection h1 with h1; cases h1
        · injection h1 with h1; injection h1 with h1; injection h1 with h1 _; subst h1
          exact frozen_of w4 _ j _ _ h3
      go_wp2_with fail
      refine wp_region_held_drew (S := (fun w' => w'.cell? ⟨w.heap.size, 0, none⟩ = some (.slice (some ⟨g, 0, none⟩) n c1))) (by kernel_rfl) x0 (fun hHeld => ?_)
      refine tk 0 (v := ?_) rfl ?_ hHeld ?_
      rotate_left
      · (intro w' hSw; (try dsimp only at hSw); go_simp; try with_reducible rfl)
      simp only [Act.put, lay9]
      refine tk 1 (v := ?_) rfl ?_ hHeld ?_
      rotate_left
      · (intro w' hSw; (try dsimp only at hSw); go_simp; try with_reducible rfl)
      simp only [Act.put, lay9]
      refine tk 2 (v := ?_) rfl ?_ hHeld ?_
      rotate_left
      · (intro w' hSw; (try dsimp only at hSw); go_simp; try with_reducible rfl)
      simp only [Act.put, lay9]
      refine tk 3 (v := ?_) rfl ?_ hHeld ?_
      rotate_left
      · (intro w' hSw; (try dsimp only at hSw); go_simp; try with_reducible rfl)
      simp only [Act.put, lay9]
      refine tk 4 (v := ?_) rfl ?_ hHeld ?_
      rotate_left
      · (intro w' hSw; (try dsimp only at hSw); go_simp; try with_reducible rfl)
      simp only [Act.put, lay9]
      refine tk 5 (v := ?_) rfl ?_ hHeld ?_
      rotate_left
      · (intro w' hSw; (try dsimp only at hSw); go_simp; try with_reducible rfl)
      simp only [Act.put, lay9]
      refine tk 6 (v := ?_) rfl ?_ hHeld ?_
      rotate_left
      · (intro w' hSw; (try dsimp only at hSw); go_simp; try with_reducible rfl)
      simp only [Act.put, lay9]
      refine tk 7 (v := ?_) rfl ?_ hHeld ?_
      rotate_left
      · (intro w' hSw; (try dsimp only at hSw); go_simp; try with_reducible rfl)
      simp only [Act.put, lay9]
      refine tk 8 (v := ?_) rfl ?_ hHeld ?_
      rotate_left
      · (intro w' hSw; (try dsimp only at hSw); go_simp; try with_reducible rfl)
      simp only [Act.put, lay9]
      refine tk 9 (v := ?_) rfl ?_ hHeld ?_
      rotate_left
      · (intro w' hSw; (try dsimp only at hSw); go_simp; try with_reducible rfl)
      simp only [Act.put, lay9]
      refine wpAnyH_ready (rs := [10]) (by kernel_rfl) (by simp) (AllReadyH.cons rfl (fun K hK => ?_) AllReadyH.nil)
      go_simp
      refine hK.out _ _ x0 (fun hHeld => ?_)
      clear hK K
      (try simp only [Act.put, lay9])
      refine tk 11 (v := ?_) rfl ?_ hHeld ?_
      rotate_left
      · (intro w' hSw; (try dsimp only at hSw); go_simp; try with_reducible rfl)
      simp only [Act.put, lay9]
      refine tk 12 (v := ?_) rfl ?_ hHeld ?_
      rotate_left
      · (intro w' hSw; (try dsimp only at hSw); go_simp; try with_reducible rfl)
      simp only [Act.put, lay9]
      refine wpAnyH_ready (rs := [13]) (by kernel_rfl) (by simp) (AllReadyH.cons rfl (fun K hK => ?_) AllReadyH.nil)
      go_simp
      have hq6 := hq4.setObj HC.out.2.2.2.2.1 hin ⟨nm, fl, od, true⟩
      simp only at hq6
      obtain ⟨W6, hW6⟩ : ∃ W6, (((w4.setCell ⟨g, i * 4, none⟩ (.string ⟨nm.toArray⟩)).setCell ⟨g, i * 4 + 1, none⟩ (.string ⟨fl.toArray⟩)).setCell ⟨g, i * 4 + 2, none⟩ (.string ⟨od.toArray⟩)).setCell ⟨g, i * 4 + 3, none⟩ (.bool true) = W6 := ⟨_, rfl⟩
      rw [hW6] at hq6 ⊢
      clear x0 x1 r0 r1 xf rf
      obtain ⟨x0, x1, r0, r1, xf, rf⟩ := hq6.cells
      refine hK.out _ _ x0 (fun hHeld => ?_)
      clear hK K
      (try simp only [Act.put, lay9])
      refine wpAnyH_done (by kernel_rfl) ?_ _
      go_wp2_with fail
      refine bodyPost_ret (v := .tuple #[.agg #[.slice (some ⟨g, 0, none⟩) n c1, .slice A3 t c3], .int .i64 0]) (by simp [results, Tryz.results76, go_sem, r0, r1]) rfl ?_
      obtain ⟨g1, g2, g3⟩ := hq6.ret
      have hsl : (l.set i ⟨nm, fl, od, true⟩).length = n := by rw [List.length_set]; exact HC.out.2.2.2.2.1
      refine ⟨_, rfl, ⟨some ⟨g, 0, none⟩, c1, A3, c3, ?_, ?_, ?_⟩, by first | exact g3 | exact g3.drew⟩
      · rw [HRR.out.1.1, HRR.out.1.2, hsl, HT.out]; rfl
      · rw [HRR.out.1.1, hsl]; exact g1
      · rw [HT.out]; exact g2
  · have HR := Lib.hid (show R = (Pl.putL l nm d, 0) by rw [← hR, if_neg h4, if_neg h13, if_neg h2]); clear hR
    have q1 : (f == 1) = false := beq_eq_false_iff_ne.2 (by omega)
    have q3 : (f == 3) = false := beq_eq_false_iff_ne.2 (by omega)
    have q2 : (f == 2) = false := beq_eq_false_iff_ne.2 h2
    clear h2 h4 h13
    go_wp2_with fail
    obtain ⟨W3, hW3⟩ : ∃ W, (w3.setCell ⟨w.heap.size, 0, none⟩ (.slice A1 n c1)).setCell ⟨w.heap.size, 1, none⟩ (.slice A3 t c3) = W := ⟨_, rfl⟩
    rw [hW3] at hq ⊢
    clear hW3 x0 x1 r0 r1 xf rf hp2 hp3
    (with_reducible refine (HC.out.2.2.2.1 _ _ _ _ _ _ (Rd.own hq.obj)).mono ?_)
    rintro e w4 ⟨v, rfl, ⟨i, fd, rfl, hfd⟩, hb4⟩
    have hq4 := hq.below hb4
    have HF := Lib.hid hfd; clear hfd
    obtain ⟨x0, x1, r0, r1, xf, rf⟩ := hq4.cells
    cases fd with
    | false =>
      have hin : i ≤ n := by have := HF.out.le; have := HC.out.2.2.2.2.1; omega
      have hRR : R.1 = insL l i ⟨nm, d, [], false⟩ ∧ R.2 = 0 := by
        rw [HR.out]; exact ⟨Pl.put_no HF.out HC.out.2.2.2.2.2.2.1 _, rfl⟩
      have HRR := Lib.hid hRR; clear hRR
      go_wp2_with fail
      have hsz4 := hq4.siz
      obtain ⟨W5, hW5⟩ : ∃ W5, w4.alloc (.cells #[.string ⟨nm.toArray⟩, .string ⟨d.toArray⟩, .string ⟨#[]⟩, .bool false] 49) = W5 := ⟨_, rfl⟩
      have ho5 : W5.ownsRow (w.heap.size + 2) 49 4 (.slice A1 n c1) n (objCs l) := by rw [← hW5]; exact hq4.obj.alloc _
      have hH5 : W5.heap[w4.heap.size]? = some (.cells (objC ⟨nm, d, [], false⟩).toArray 49 (0, 0)) := by rw [← hW5]; exact heap_alloc_new w4 _
      have hb5 : Below w4.heap.size w4 W5 := by rw [← hW5]; exact (Below.refl _ _).alloc (Nat.le_refl _) _
      rw [hW5]
      (with_reducible refine (insert_any (w.heap.size + 2) A1 n c1 i l ⟨nm, d, [], false⟩ w4.heap.size _ HC.out.2.2.2.2.1 ho5 hH5 hn (by have := hb5.size; omega) hin ?_).mono ?_)
      · intro hA
        rcases hq4.obj.2 with ⟨h1, -⟩ | ⟨g, cap, cur, h1, -, h3, -⟩
        · injection h1 with h1; subst h1; cases hA
        · injection h1 with h1; subst h1
          simp only [Option.map_some, Option.some.injEq] at hA
          have := blk_lt h3
          omega
      rintro e w6 ⟨v, rfl, ho6, hb6, hO6⟩
      obtain ⟨A6, c6, rfl⟩ := own_form ho6
      have hq5 := hq4.below hb5
      have hq6 := hq5.put0 ho6 hb6 hO6
      have y0 : w6.cell? ⟨w.heap.size, 0, none⟩ = some (.slice A1 n c1) := (hb6.cell (p := ⟨w.heap.size, 0, none⟩) (by show w.heap.size < w.heap.size + 2; omega)).trans hq5.cells.1
      have yf : w6.frozen? ⟨w.heap.size, 0, none⟩ = false := (hb6.frozen (p := ⟨w.heap.size, 0, none⟩) (by show w.heap.size < w.heap.size + 2; omega)).trans (hq5.cells.2.2.2.2.1 0)
      have s0 : w6.cell? ⟨w.heap.size + 1, 0, none⟩ = some (.slice none 0 0) := (hb6.cell (p := ⟨w.heap.size + 1, 0, none⟩) (by show w.heap.size + 1 < w.heap.size + 2; omega)).trans hq5.cells.2.2.1
      have s1 : w6.cell? ⟨w.heap.size + 1, 1, none⟩ = some (.slice none 0 0) := (hb6.cell (p := ⟨w.heap.size + 1, 1, none⟩) (by show w.heap.size + 1 < w.heap.size + 2; omega)).trans hq5.cells.2.2.2.1
      have s2 : w6.cell? ⟨w.heap.size, 1, none⟩ = some (.slice A3 t c3) := (hb6.cell (p := ⟨w.heap.size, 1, none⟩) (by show w.heap.size < w.heap.size + 2; omega)).trans hq5.cells.2.1
      have sf : ∀ j, w6.frozen? ⟨w.heap.size + 1, j, none⟩ = false := fun j => (hb6.frozen (p := ⟨w.heap.size + 1, j, none⟩) (by show w.heap.size + 1 < w.heap.size + 2; omega)).trans (hq5.cells.2.2.2.2.2 j)
      obtain ⟨k6, hk6⟩ : ∃ k, (insL l i ⟨nm, d, [], false⟩).length = k := ⟨_, rfl⟩
      rw [hk6] at hq6 ⊢
      have HK6 := Lib.hid hk6; clear hk6
      go_wp2_with fail
      refine bodyPost_ret (v := .tuple #[.agg #[.slice A6 k6 c6, .slice A3 t c3], .int .i64 0]) (by simp [results, Tryz.results76, go_sem, s0, s1]) rfl ?_
      obtain ⟨g1, g2, g3⟩ := hq6.ret
      refine ⟨_, rfl, ⟨A6, c6, A3, c3, ?_, ?_, ?_⟩, g3⟩
      · rw [HRR.out.1, HRR.out.2, HK6.out, HT.out]; rfl
      · rw [HRR.out.1, HK6.out]; exact g1
      · rw [HT.out]; exact g2
    | true =>
      obtain ⟨hi, hput⟩ := Pl.put_yes HF.out HC.out.2.2.2.2.2.2.1 d
      have hin : i < n := by have := HC.out.2.2.2.2.1; omega
      have hRR : R.1 = l.set i ⟨nm, d, l[i].data, true⟩ ∧ R.2 = 0 := by rw [HR.out]; exact ⟨hput, rfl⟩
      clear hput
      obtain ⟨b, off, hA1, hltb, p0, p1, p2, p3⟩ := (Rd.own hq4.obj).obj HC.out.2.2.2.2.1 hin
      obtain ⟨g, hg0⟩ : ∃ g, A1 = some ⟨g, 0, none⟩ := by
        rcases hq4.obj.2 with ⟨-, h0⟩ | ⟨g, cap, cur, h1, -⟩
        · omega
        · injection h1 with h1; exact ⟨g, h1⟩
      rw [hg0] at hA1
      injection hA1 with hA1
      injection hA1 with hA2 hA3
      subst hA2 hA3 hg0
      simp only [Nat.zero_add] at p0 p1 p2 p3
      obtain ⟨od, hod⟩ : ∃ od, (l[i]'(by have := HC.out.2.2.2.2.1; omega)).data = od := ⟨_, rfl⟩
      rw [hod] at p1
      simp only [hod] at hRR
      have HRR := Lib.hid (And.intro hRR hod); clear hRR hod
      have hib : (0 : Int) ≤ (i : Int) := by omega
      have hib2 : (i : Int) < (n : Int) := by omega
      have hne : g ≠ w.heap.size := by have := own_off hq4.obj (B := w.heap.size) (by omega); simpa using this
      have hne1 : g ≠ w.heap.size + 1 := by have := own_off hq4.obj (B := w.heap.size + 1) (by omega); simpa using this
      have hfz : ∀ j, w4.frozen? ⟨g, j, none⟩ = false := by
        intro j
        rcases hq4.obj.2 with ⟨h1, -⟩ | ⟨g', cap, cur, h1, -, h3, -⟩
        · injection h1 with h1; cases h1
        · injection h1 with h1; injection h1 with h1; injection h1 with h1 _; subst h1
          exact frozen_of w4 _ j _ _ h3
      go_wp2_with fail
      refine wp_region_held_drew (S := (fun w' => w'.cell? ⟨w.heap.size, 0, none⟩ = some (.slice (some ⟨g, 0, none⟩) n c1))) (by kernel_rfl) x0 (fun hHeld => ?_)
      refine tk 0 (v := ?_) rfl ?_ hHeld ?_
      rotate_left
      · (intro w' hSw; (try dsimp only at hSw); go_simp; try with_reducible rfl)
      simp only [Act.put, lay9]
      refine tk 1 (v := ?_) rfl ?_ hHeld ?_
      rotate_left
      · (intro w' hSw; (try dsimp only at hSw); go_simp; try with_reducible rfl)
      simp only [Act.put, lay9]
      refine tk 2 (v := ?_) rfl ?_ hHeld ?_
      rotate_left
      · (intro w' hSw; (try dsimp only at hSw); go_simp; try with_reducible rfl)
      simp only [Act.put, lay9]
      refine tk 3 (v := ?_) rfl ?_ hHeld ?_
      rotate_left
      · (intro w' hSw; (try dsimp only at hSw); go_simp; try with_reducible rfl)
      simp only [Act.put, lay9]
      refine tk 4 (v := ?_) rfl ?_ hHeld ?_
      rotate_left
      · (intro w' hSw; (try dsimp only at hSw); go_simp; try with_reducible rfl)
      simp only [Act.put, lay9]
      refine tk 5 (v := ?_) rfl ?_ hHeld ?_
      rotate_left
      · (intro w' hSw; (try dsimp only at hSw); go_simp; try with_reducible rfl)
      simp only [Act.put, lay9]
      refine tk 6 (v := ?_) rfl ?_ hHeld ?_
      rotate_left
      · (intro w' hSw; (try dsimp only at hSw); go_simp; try with_reducible rfl)
      simp only [Act.put, lay9]
      refine tk 7 (v := ?_) rfl ?_ hHeld ?_
      rotate_left
      · (intro w' hSw; (try dsimp only at hSw); go_simp; try with_reducible rfl)
      simp only [Act.put, lay9]
      refine tk 8 (v := ?_) rfl ?_ hHeld ?_
      rotate_left
      · (intro w' hSw; (try dsimp only at hSw); go_simp; try with_reducible rfl)
      simp only [Act.put, lay9]
      refine tk 9 (v := ?_) rfl ?_ hHeld ?_
      rotate_left
      · (intro w' hSw; (try dsimp only at hSw); go_simp; try with_reducible rfl)
      simp only [Act.put, lay9]
      refine wpAnyH_ready (rs := [10]) (by kernel_rfl) (by simp) (AllReadyH.cons rfl (fun K hK => ?_) AllReadyH.nil)
      go_simp
      refine hK.out _ _ x0 (fun hHeld => ?_)
      clear hK K
      (try simp only [Act.put, lay9])
      refine tk 11 (v := ?_) rfl ?_ hHeld ?_
      rotate_left
      · (intro w' hSw; (try dsimp only at hSw); go_simp; try with_reducible rfl)
      simp only [Act.put, lay9]
      refine tk 12 (v := ?_) rfl ?_ hHeld ?_
      rotate_left
      · (intro w' hSw; (try dsimp only at hSw); go_simp; try with_reducible rfl)
      simp only [Act.put, lay9]
      refine wpAnyH_ready (rs := [13]) (by kernel_rfl) (by simp) (AllReadyH.cons rfl (fun K hK => ?_) AllReadyH.nil)
      go_simp
      have hq6 := hq4.setObj HC.out.2.2.2.2.1 hin ⟨nm, d, od, true⟩
      simp only at hq6
      obtain ⟨W6, hW6⟩ : ∃ W6, (((w4.setCell ⟨g, i * 4, none⟩ (.string ⟨nm.toArray⟩)).setCell ⟨g, i * 4 + 1, none⟩ (.string ⟨d.toArray⟩)).setCell ⟨g, i * 4 + 2, none⟩ (.string ⟨od.toArray⟩)).setCell ⟨g, i * 4 + 3, none⟩ (.bool true) = W6 := ⟨_, rfl⟩
      rw [hW6] at hq6 ⊢
      clear x0 x1 r0 r1 xf rf
      obtain ⟨x0, x1, r0, r1, xf, rf⟩ := hq6.cells
      refine hK.out _ _ x0 (fun hHeld => ?_)
      clear hK K
      (try simp only [Act.put, lay9])
      refine wpAnyH_done (by kernel_rfl) ?_ _
      go_wp2_with fail
      refine bodyPost_ret (v := .tuple #[.agg #[.slice (some ⟨g, 0, none⟩) n c1, .slice A3 t c3], .int .i64 0]) (by simp [results, Tryz.results76, go_sem, r0, r1]) rfl ?_
      obtain ⟨g1, g2, g3⟩ := hq6.ret
      have hsl : (l.set i ⟨nm, d, od, true⟩).length = n := by rw [List.length_set]; exact HC.out.2.2.2.2.1
      refine ⟨_, rfl, ⟨some ⟨g, 0, none⟩, c1, A3, c3, ?_, ?_, ?_⟩, by first | exact g3 | exact g3.drew⟩
      · rw [HRR.out.1.1, HRR.out.1.2, hsl, HT.out]; rfl
      · rw [HRR.out.1.1, hsl]; exact g1
      · rw [HT.out]; exact g2
end Go.Proofs.YtdnebgilkfafhaaGreatDoor
namespace Go.Proofs.YtdnebgilkfafhaaGreatDoor
open Go.RowKit
set_option linter.unusedVariables false
set_option linter.unusedSimpArgs false

set_option maxRecDepth 100000 in
set_option maxHeartbeats 2000000 in
theorem drop_bad (A A' : Option Addr) (n c m c' : Nat) (l : List Pl.Obj) (F : List Int) (nm : List UInt8) (w : World) (hl : l.length = n) (hF : F.length = m) (hr : SlAt w 4 A n c (objCs l)) (hr' : SlAt w 1 A' m c' (ints F)) (hn : n ≤ 2513169434900) (hm : m ≤ 17592186044000)
    (hk : Pl.askE l nm ≠ 0) :
    Calls Tryz.prog 51 #[.agg #[.slice A n c, .slice A' m c'], .string ⟨nm.toArray⟩] w (RetB (PutOut w.heap.size l F (Pl.askE l nm)) w) := by
  obtain ⟨E, hE⟩ : ∃ E, Pl.askE l nm = E := ⟨_, rfl⟩
  rw [hE] at hk ⊢
  have hco := fun w h h' => copied_any A A' n c m c' l F w hl hF h h' hn hm
  have has := fun A A' c c' w h => asked_any A A' n c m c' l nm w hl h hn
  rw [hE] at has
  have HC := Lib.hid (And.intro hco (And.intro has (And.intro hl hF))); clear hco has hl hF hE
  go_enter Tryz.func51, Tryz.ntmps51
  go_wp2_with fail
  have hb0 := bx_new w A A' n c m c'
  obtain ⟨V, hV⟩ : ∃ V, (w.alloc (.cells #[.slice A n c, .slice A' m c'] 26)).alloc (.cells #[.slice none 0 0, .slice none 0 0] 26) = V := ⟨_, rfl⟩
  rw [hV] at hb0 ⊢
  clear hV
  (with_reducible refine (HC.out.1 V (hr.below hb0.bel) (hr'.below hb0.bel)).mono ?_)
  rintro e w1 ⟨v, rfl, ⟨A1, c1, A2, c2, rfl, ho1, ho2⟩, hb1⟩
  rw [HC.out.2.2.1] at ho1 ⊢
  rw [HC.out.2.2.2] at ho2 ⊢
  have hx1 := hb0.below hb1
  obtain ⟨x0, x1, r0, r1, xf, rf⟩ := hx1.cells
  have hsz := hb0.siz
  have hof := own_off ho2 (B := w.heap.size) (by omega)
  have hof1 := own_off ho2 (B := w.heap.size + 1) (by omega)
  have hp := hx1.put (own_base ho1 (by omega)) (own_sl ho2) hof hof1 (own_ty ho2)
  go_wp2_with fail
  obtain ⟨W, hW⟩ : ∃ W, (w1.setCell ⟨w.heap.size, 0, none⟩ (.slice A1 n c1)).setCell ⟨w.heap.size, 1, none⟩ (.slice A2 m c2) = W := ⟨_, rfl⟩
  rw [hW] at hp ⊢
  clear hW x0 x1 r0 r1 xf rf ho1 ho2 hx1
  (with_reducible refine (HC.out.2.1 _ _ _ _ _ (Rd.own hp.obj)).mono ?_)
  rintro e w2 ⟨v, rfl, rfl, hb2⟩
  have hp2 := hp.below hb2
  obtain ⟨x0, x1, r0, r1, xf, rf⟩ := hp2.cells
  have q2 : ((E : Int) != 0) = true := by simp; omega
  go_wp2_with fail
  refine bodyPost_ret (v := .tuple #[.agg #[.slice A1 n c1, .slice A2 m c2], .int .i64 (E : Int)]) (by simp [results, Tryz.results51, go_sem, r0, r1]) rfl ?_
  obtain ⟨g1, g2, g3⟩ := hp2.ret
  refine ⟨_, rfl, ⟨A1, c1, A2, c2, ?_, ?_, ?_⟩, g3⟩
  · rw [HC.out.2.2.1, HC.out.2.2.2]
  · rw [HC.out.2.2.1]; exact g1
  · rw [HC.out.2.2.2]; exact g2
set_option maxRecDepth 100000 in
set_option maxHeartbeats 4000000 in
theorem drop_good (A A' : Option Addr) (n c m c' : Nat) (l : List Pl.Obj) (F : List Int) (nm : List UInt8) (w : World) (hl : l.length = n) (hF : F.length = m) (hr : SlAt w 4 A n c (objCs l)) (hr' : SlAt w 1 A' m c' (ints F)) (hn : n ≤ 2513169434900) (hm : m ≤ 17592186044000)
    (hok : Pl.askE l nm = 0) :
    Calls Tryz.prog 51 #[.agg #[.slice A n c, .slice A' m c'], .string ⟨nm.toArray⟩] w (RetB (PutOut w.heap.size (Pl.dropR l (F.headD 0) nm).1 F.tail (Pl.dropR l (F.headD 0) nm).2) w) := by
  have hris : Pl.Rising l := Pl.chk_rising (Pl.askE_ok hok).1
  have hco := fun w h h' => copied_any A A' n c m c' l F w hl hF h h' hn hm
  have has := fun A A' c c' w h => asked_any A A' n c m c' l nm w hl h hn
  have htk := fun A A' c c' w h => taken_any A A' n c m c' F w hF h
  have hfd := fun A A' c m c' w h => find_any A A' n c m c' l nm w hl h hn hris
  rw [hok] at has
  obtain ⟨f, hf⟩ : ∃ f, F.headD 0 = f := ⟨_, rfl⟩
  obtain ⟨T, hT⟩ : ∃ T, F.tail = T := ⟨_, rfl⟩
  obtain ⟨R, hR⟩ : ∃ R, Pl.dropR l f nm = R := ⟨_, rfl⟩
  unfold TakenOut at htk
  simp only [hf, hT] at htk ⊢
  rw [hR]
  unfold Pl.dropR at hR
  have HC := Lib.hid (And.intro hco (And.intro has (And.intro htk (And.intro hfd (And.intro hl (And.intro hF (And.intro hris hR)))))))
  clear hco has htk hfd hl hF hok hris hf hT hR
  go_enter Tryz.func51, Tryz.ntmps51
  go_wp2_with fail
  have hb0 := bx_new w A A' n c m c'
  obtain ⟨V, hV⟩ : ∃ V, (w.alloc (.cells #[.slice A n c, .slice A' m c'] 26)).alloc (.cells #[.slice none 0 0, .slice none 0 0] 26) = V := ⟨_, rfl⟩
  rw [hV] at hb0 ⊢
  clear hV
  (with_reducible refine (HC.out.1 V (hr.below hb0.bel) (hr'.below hb0.bel)).mono ?_)
  rintro e w1 ⟨v, rfl, ⟨A1, c1, A2, c2, rfl, ho1, ho2⟩, hb1⟩
  rw [HC.out.2.2.2.2.1] at ho1 ⊢
  rw [HC.out.2.2.2.2.2.1] at ho2 ⊢
  have hx1 := hb0.below hb1
  obtain ⟨x0, x1, r0, r1, xf, rf⟩ := hx1.cells
  have hsz := hb0.siz
  have hof := own_off ho2 (B := w.heap.size) (by omega)
  have hof1 := own_off ho2 (B := w.heap.size + 1) (by omega)
  have hp := hx1.put (own_base ho1 (by omega)) (own_sl ho2) hof hof1 (own_ty ho2)
  go_wp2_with fail
  obtain ⟨W, hW⟩ : ∃ W, (w1.setCell ⟨w.heap.size, 0, none⟩ (.slice A1 n c1)).setCell ⟨w.heap.size, 1, none⟩ (.slice A2 m c2) = W := ⟨_, rfl⟩
  rw [hW] at hp ⊢
  clear hW x0 x1 r0 r1 xf rf ho1 ho2 hx1
  (with_reducible refine (HC.out.2.1 _ _ _ _ _ (Rd.own hp.obj)).mono ?_)
  rintro e w2 ⟨v, rfl, rfl, hb2⟩
  have hp2 := hp.below hb2
  obtain ⟨x0, x1, r0, r1, xf, rf⟩ := hp2.cells
  go_wp2_with fail
  (with_reducible refine (HC.out.2.2.1 _ _ _ _ _ hp2.fat).mono ?_)
  rintro e w3 ⟨v, rfl, ⟨A3, c3, rfl, hs3, hbk⟩, hb3⟩
  have hp3 := hp2.below hb3
  clear x0 x1 r0 r1 xf rf hp
  obtain ⟨x0, x1, r0, r1, xf, rf⟩ := hp3.cells
  have hq := hp3.toBx0.put hp3.obj hs3 (by rw [hbk]; exact hof) (by rw [hbk]; exact hof1) (by unfold FTy; rw [hbk]; exact hp3.fty)
  obtain ⟨t, ht⟩ : ∃ t, T.length = t := ⟨_, rfl⟩
  rw [ht] at hq ⊢
  have HT := Lib.hid ht; clear ht
  have hR := HC.out.2.2.2.2.2.2.2
  by_cases h4 : f = 4
  · have HR := Lib.hid (show R = (l, 17) by rw [← hR, if_pos h4]); clear hR
    subst h4
    go_wp2_with fail
    refine bodyPost_ret (v := .tuple #[.agg #[.slice A1 n c1, .slice A3 t c3], .int .i64 17]) (by simp [results, Tryz.results51, go_sem, r0, r1]) rfl ?_
    obtain ⟨g1, g2, g3⟩ := hq.ret
    refine ⟨_, rfl, ⟨A1, c1, A3, c3, ?_, ?_, ?_⟩, g3⟩
    · rw [HR.out, HT.out]; show Value.tuple #[.agg #[_, _], _] = Value.tuple #[.agg #[.slice _ (_ : List Pl.Obj).length _, _], _]; rw [HC.out.2.2.2.2.1]; rfl
    · rw [HR.out]; show SlO _ _ _ (_ : List Pl.Obj).length _ _; rw [HC.out.2.2.2.2.1]; exact g1
    · rw [HT.out]; exact g2
  have q4 : (f == 4) = false := beq_eq_false_iff_ne.2 h4
  by_cases h13 : f = 1 ∨ f = 3
  · have HR := Lib.hid (show R = (l, 0) by rw [← hR, if_neg h4, if_pos h13]); clear hR h4 q4
    rcases h13 with rfl | rfl
    · go_wp2_with fail
      refine bodyPost_ret (v := .tuple #[.agg #[.slice A1 n c1, .slice A3 t c3], .int .i64 0]) (by simp [results, Tryz.results51, go_sem, r0, r1]) rfl ?_
      obtain ⟨g1, g2, g3⟩ := hq.ret
      refine ⟨_, rfl, ⟨A1, c1, A3, c3, ?_, ?_, ?_⟩, g3⟩
      · rw [HR.out, HT.out]; show Value.tuple #[.agg #[_, _], _] = Value.tuple #[.agg #[.slice _ (_ : List Pl.Obj).length _, _], _]; rw [HC.out.2.2.2.2.1]; rfl
      · rw [HR.out]; show SlO _ _ _ (_ : List Pl.Obj).length _ _; rw [HC.out.2.2.2.2.1]; exact g1
      · rw [HT.out]; exact g2
    · go_wp2_with fail
      refine bodyPost_ret (v := .tuple #[.agg #[.slice A1 n c1, .slice A3 t c3], .int .i64 0]) (by simp [results, Tryz.results51, go_sem, r0, r1]) rfl ?_
      obtain ⟨g1, g2, g3⟩ := hq.ret
      refine ⟨_, rfl, ⟨A1, c1, A3, c3, ?_, ?_, ?_⟩, g3⟩
      · rw [HR.out, HT.out]; show Value.tuple #[.agg #[_, _], _] = Value.tuple #[.agg #[.slice _ (_ : List Pl.Obj).length _, _], _]; rw [HC.out.2.2.2.2.1]; rfl
      · rw [HR.out]; show SlO _ _ _ (_ : List Pl.Obj).length _ _; rw [HC.out.2.2.2.2.1]; exact g1
      · rw [HT.out]; exact g2
  have q1 : (f == 1) = false := beq_eq_false_iff_ne.2 (by omega)
  have q3 : (f == 3) = false := beq_eq_false_iff_ne.2 (by omega)
  rw [if_neg h4, if_neg h13] at hR
  have HR0 := Lib.hid hR; clear hR h4 h13
  go_wp2_with fail
  obtain ⟨W3, hW3⟩ : ∃ W, (w3.setCell ⟨w.heap.size, 0, none⟩ (.slice A1 n c1)).setCell ⟨w.heap.size, 1, none⟩ (.slice A3 t c3) = W := ⟨_, rfl⟩
  rw [hW3] at hq ⊢
  clear hW3 x0 x1 r0 r1 xf rf hp2 hp3
  (with_reducible refine (HC.out.2.2.2.1 _ _ _ _ _ _ (Rd.own hq.obj)).mono ?_)
  rintro e w4 ⟨v, rfl, ⟨i, fd, rfl, hfd⟩, hb4⟩
  have hq4 := hq.below hb4
  have HF := Lib.hid hfd; clear hfd
  obtain ⟨x0, x1, r0, r1, xf, rf⟩ := hq4.cells
  cases fd with
  | false =>
    have HR := Lib.hid (show R = (l, 9) by rw [← HR0.out, Pl.found_no HF.out HC.out.2.2.2.2.2.2.1]; rfl)
    go_wp2_with fail
    refine bodyPost_ret (v := .tuple #[.agg #[.slice A1 n c1, .slice A3 t c3], .int .i64 9]) (by simp [results, Tryz.results51, go_sem, r0, r1]) rfl ?_
    obtain ⟨g1, g2, g3⟩ := hq4.ret
    refine ⟨_, rfl, ⟨A1, c1, A3, c3, ?_, ?_, ?_⟩, g3⟩
    · rw [HR.out, HT.out]; show Value.tuple #[.agg #[_, _], _] = Value.tuple #[.agg #[.slice _ (_ : List Pl.Obj).length _, _], _]; rw [HC.out.2.2.2.2.1]; rfl
    · rw [HR.out]; show SlO _ _ _ (_ : List Pl.Obj).length _ _; rw [HC.out.2.2.2.2.1]; exact g1
    · rw [HT.out]; exact g2
  | true =>
    obtain ⟨hi, -, hfo⟩ := Pl.found_yes HF.out
    have hin : i < n := by have := HC.out.2.2.2.2.1; omega
    have HR := Lib.hid (show R = (delL l i, 0) by rw [← HR0.out, hfo, Pl.drop_yes HF.out HC.out.2.2.2.2.2.2.1]; rfl)
    clear hfo
    go_wp2_with fail
    (with_reducible refine (delete_any (w.heap.size + 2) A1 n c1 i l _ HC.out.2.2.2.2.1 hq4.obj hn hin).mono ?_)
    rintro e w6 ⟨v, rfl, ho6, hb6, hO6⟩
    obtain ⟨A6, c6, rfl⟩ := own_form ho6
    have hq6 := hq4.put0 ho6 hb6 hO6
    have y0 : w6.cell? ⟨w.heap.size, 0, none⟩ = some (.slice A1 n c1) := (hb6.cell (p := ⟨w.heap.size, 0, none⟩) (by show w.heap.size < w.heap.size + 2; omega)).trans x0
    have yf : w6.frozen? ⟨w.heap.size, 0, none⟩ = false := (hb6.frozen (p := ⟨w.heap.size, 0, none⟩) (by show w.heap.size < w.heap.size + 2; omega)).trans (xf 0)
    have s0 : w6.cell? ⟨w.heap.size + 1, 0, none⟩ = some (.slice none 0 0) := (hb6.cell (p := ⟨w.heap.size + 1, 0, none⟩) (by show w.heap.size + 1 < w.heap.size + 2; omega)).trans r0
    have s1 : w6.cell? ⟨w.heap.size + 1, 1, none⟩ = some (.slice none 0 0) := (hb6.cell (p := ⟨w.heap.size + 1, 1, none⟩) (by show w.heap.size + 1 < w.heap.size + 2; omega)).trans r1
    have s2 : w6.cell? ⟨w.heap.size, 1, none⟩ = some (.slice A3 t c3) := (hb6.cell (p := ⟨w.heap.size, 1, none⟩) (by show w.heap.size < w.heap.size + 2; omega)).trans x1
    have sf : ∀ j, w6.frozen? ⟨w.heap.size + 1, j, none⟩ = false := fun j => (hb6.frozen (p := ⟨w.heap.size + 1, j, none⟩) (by show w.heap.size + 1 < w.heap.size + 2; omega)).trans (rf j)
    obtain ⟨k6, hk6⟩ : ∃ k, (delL l i).length = k := ⟨_, rfl⟩
    rw [hk6] at hq6 ⊢
    have HK6 := Lib.hid hk6; clear hk6 x0 x1 r0 r1 xf rf
    go_wp2_with fail
    refine bodyPost_ret (v := .tuple #[.agg #[.slice A6 k6 c6, .slice A3 t c3], .int .i64 0]) (by simp [results, Tryz.results51, go_sem, s0, s1]) rfl ?_
    obtain ⟨g1, g2, g3⟩ := hq6.ret
    refine ⟨_, rfl, ⟨A6, c6, A3, c3, ?_, ?_, ?_⟩, g3⟩
    · rw [HR.out, HT.out]; show Value.tuple #[.agg #[_, _], _] = Value.tuple #[.agg #[.slice _ (_ : List Pl.Obj).length _, _], _]; rw [HK6.out]; rfl
    · rw [HR.out]; show SlO _ _ _ (_ : List Pl.Obj).length _ _; rw [HK6.out]; exact g1
    · rw [HT.out]; exact g2
end Go.Proofs.YtdnebgilkfafhaaGreatDoor
