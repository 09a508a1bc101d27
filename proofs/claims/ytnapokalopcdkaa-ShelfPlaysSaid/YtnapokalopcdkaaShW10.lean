/- The walk of shelf.Drop. -/
import Derived.Test.YtnapokalopcdkaaShW9
import Derived.Test.YtnapokalopcdkaaShDel
namespace Go.Proofs.Ytnapokalopcdkaa
open Go.RowKit
set_option linter.unusedVariables false
set_option linter.unusedSimpArgs false

set_option maxRecDepth 100000 in
set_option maxHeartbeats 2000000 in
theorem drop_bad (A A' : Option Addr) (n c m c' : Nat) (l : List Pl.Obj) (F : List Int) (nm : List UInt8) (w : World) (hl : l.length = n) (hF : F.length = m) (hr : SlAt w 4 A n c (objCs l)) (hr' : SlAt w 1 A' m c' (ints F)) (hn : n ≤ 1000000) (hm : m ≤ 1000000)
    (hk : Pl.askE l nm ≠ 0) :
    Calls Try.prog 16 #[.agg #[.slice A n c, .slice A' m c'], .string ⟨nm.toArray⟩] w (RetB (PutOut l F (Pl.askE l nm)) w) := by
  obtain ⟨E, hE⟩ : ∃ E, Pl.askE l nm = E := ⟨_, rfl⟩
  rw [hE] at hk ⊢
  have hco := fun w h h' => copied_any A A' n c m c' l F w hl hF h h' hn hm
  have has := fun A A' c c' w h => asked_any A A' n c m c' l nm w hl h hn
  rw [hE] at has
  have HC := Lib.hid (And.intro hco (And.intro has (And.intro hl hF))); clear hco has hl hF hE
  go_enter Try.func16, Try.ntmps16
  go_wp2_with fail
  have hb0 := bx_new w A A' n c m c'
  obtain ⟨V, hV⟩ : ∃ V, (w.alloc (.cells #[.slice A n c, .slice A' m c'] 25)).alloc (.cells #[.slice none 0 0, .slice none 0 0] 25) = V := ⟨_, rfl⟩
  rw [hV] at hb0 ⊢
  clear hV
  (with_reducible refine (HC.out.1 V (hr.below hb0.bel) (hr'.below hb0.bel)).mono ?_)
  rintro e w1 ⟨v, rfl, ⟨A1, c1, A2, c2, rfl, ho1, ho2⟩, hb1⟩
  rw [HC.out.2.2.1] at ho1 ⊢
  rw [HC.out.2.2.2] at ho2 ⊢
  have hx1 := hb0.below hb1
  obtain ⟨x0, x1, r0, r1, xf, rf⟩ := hx1.cells
  have hsz := hb0.siz
  have hof := own_off ho2 (B := w.heap.size) (by omega)
  have hof1 := own_off ho2 (B := w.heap.size + 1) (by omega)
  have hp := hx1.put (own_base ho1 (by omega)) (own_sl ho2) hof hof1 (own_ty ho2)
  go_wp2_with fail
  obtain ⟨W, hW⟩ : ∃ W, (w1.setCell ⟨w.heap.size, 0, none⟩ (.slice A1 n c1)).setCell ⟨w.heap.size, 1, none⟩ (.slice A2 m c2) = W := ⟨_, rfl⟩
  rw [hW] at hp ⊢
  clear hW x0 x1 r0 r1 xf rf ho1 ho2 hx1
  (with_reducible refine (HC.out.2.1 _ _ _ _ _ (Rd.own hp.obj)).mono ?_)
  rintro e w2 ⟨v, rfl, rfl, hb2⟩
  have hp2 := hp.below hb2
  obtain ⟨x0, x1, r0, r1, xf, rf⟩ := hp2.cells
  have q2 : ((E : Int) != 0) = true := by simp; omega
  go_wp2_with fail
  refine bodyPost_ret (v := .tuple #[.agg #[.slice A1 n c1, .slice A2 m c2], .int .i64 (E : Int)]) (by simp [results, Try.results16, go_sem, r0, r1]) rfl ?_
  obtain ⟨g1, g2, g3⟩ := hp2.ret
  refine ⟨_, rfl, ⟨A1, c1, A2, c2, ?_, ?_, ?_⟩, g3⟩
  · rw [HC.out.2.2.1, HC.out.2.2.2]
  · rw [HC.out.2.2.1]; exact g1
  · rw [HC.out.2.2.2]; exact g2
set_option maxRecDepth 100000 in
set_option maxHeartbeats 4000000 in
theorem drop_good (A A' : Option Addr) (n c m c' : Nat) (l : List Pl.Obj) (F : List Int) (nm : List UInt8) (w : World) (hl : l.length = n) (hF : F.length = m) (hr : SlAt w 4 A n c (objCs l)) (hr' : SlAt w 1 A' m c' (ints F)) (hn : n ≤ 1000000) (hm : m ≤ 1000000)
    (hok : Pl.askE l nm = 0) :
    Calls Try.prog 16 #[.agg #[.slice A n c, .slice A' m c'], .string ⟨nm.toArray⟩] w (RetB (PutOut (Pl.dropR l (F.headD 0) nm).1 F.tail (Pl.dropR l (F.headD 0) nm).2) w) := by
  have hris : Pl.Rising l := Pl.chk_rising (Pl.askE_ok hok).1
  have hco := fun w h h' => copied_any A A' n c m c' l F w hl hF h h' hn hm
  have has := fun A A' c c' w h => asked_any A A' n c m c' l nm w hl h hn
  have htk := fun A A' c c' w h => taken_any A A' n c m c' F w hF h
  have hfd := fun A A' c m c' w h => find_any A A' n c m c' l nm w hl h hn hris
  rw [hok] at has
  obtain ⟨f, hf⟩ : ∃ f, F.headD 0 = f := ⟨_, rfl⟩
  obtain ⟨T, hT⟩ : ∃ T, F.tail = T := ⟨_, rfl⟩
  obtain ⟨R, hR⟩ : ∃ R, Pl.dropR l f nm = R := ⟨_, rfl⟩
  unfold TakenOut at htk
  simp only [hf, hT] at htk ⊢
  rw [hR]
  unfold Pl.dropR at hR
  have HC := Lib.hid (And.intro hco (And.intro has (And.intro htk (And.intro hfd (And.intro hl (And.intro hF (And.intro hris hR)))))))
  clear hco has htk hfd hl hF hok hris hf hT hR
  go_enter Try.func16, Try.ntmps16
  go_wp2_with fail
  have hb0 := bx_new w A A' n c m c'
  obtain ⟨V, hV⟩ : ∃ V, (w.alloc (.cells #[.slice A n c, .slice A' m c'] 25)).alloc (.cells #[.slice none 0 0, .slice none 0 0] 25) = V := ⟨_, rfl⟩
  rw [hV] at hb0 ⊢
  clear hV
  (with_reducible refine (HC.out.1 V (hr.below hb0.bel) (hr'.below hb0.bel)).mono ?_)
  rintro e w1 ⟨v, rfl, ⟨A1, c1, A2, c2, rfl, ho1, ho2⟩, hb1⟩
  rw [HC.out.2.2.2.2.1] at ho1 ⊢
  rw [HC.out.2.2.2.2.2.1] at ho2 ⊢
  have hx1 := hb0.below hb1
  obtain ⟨x0, x1, r0, r1, xf, rf⟩ := hx1.cells
  have hsz := hb0.siz
  have hof := own_off ho2 (B := w.heap.size) (by omega)
  have hof1 := own_off ho2 (B := w.heap.size + 1) (by omega)
  have hp := hx1.put (own_base ho1 (by omega)) (own_sl ho2) hof hof1 (own_ty ho2)
  go_wp2_with fail
  obtain ⟨W, hW⟩ : ∃ W, (w1.setCell ⟨w.heap.size, 0, none⟩ (.slice A1 n c1)).setCell ⟨w.heap.size, 1, none⟩ (.slice A2 m c2) = W := ⟨_, rfl⟩
  rw [hW] at hp ⊢
  clear hW x0 x1 r0 r1 xf rf ho1 ho2 hx1
  (with_reducible refine (HC.out.2.1 _ _ _ _ _ (Rd.own hp.obj)).mono ?_)
  rintro e w2 ⟨v, rfl, rfl, hb2⟩
  have hp2 := hp.below hb2
  obtain ⟨x0, x1, r0, r1, xf, rf⟩ := hp2.cells
  go_wp2_with fail
  (with_reducible refine (HC.out.2.2.1 _ _ _ _ _ hp2.fat).mono ?_)
  rintro e w3 ⟨v, rfl, ⟨A3, c3, rfl, hs3, hbk⟩, hb3⟩
  have hp3 := hp2.below hb3
  clear x0 x1 r0 r1 xf rf hp
  obtain ⟨x0, x1, r0, r1, xf, rf⟩ := hp3.cells
  have hq := hp3.toBx0.put hp3.obj hs3 (by rw [hbk]; exact hof) (by rw [hbk]; exact hof1) (by unfold FTy; rw [hbk]; exact hp3.fty)
  obtain ⟨t, ht⟩ : ∃ t, T.length = t := ⟨_, rfl⟩
  rw [ht] at hq ⊢
  have HT := Lib.hid ht; clear ht
  have hR := HC.out.2.2.2.2.2.2.2
  by_cases h4 : f = 4
  · have HR := Lib.hid (show R = (l, 17) by rw [← hR, if_pos h4]); clear hR
    subst h4
    go_wp2_with fail
    refine bodyPost_ret (v := .tuple #[.agg #[.slice A1 n c1, .slice A3 t c3], .int .i64 17]) (by simp [results, Try.results16, go_sem, r0, r1]) rfl ?_
    obtain ⟨g1, g2, g3⟩ := hq.ret
    refine ⟨_, rfl, ⟨A1, c1, A3, c3, ?_, ?_, ?_⟩, g3⟩
    · rw [HR.out, HT.out]; show Value.tuple #[.agg #[_, _], _] = Value.tuple #[.agg #[.slice _ (_ : List Pl.Obj).length _, _], _]; rw [HC.out.2.2.2.2.1]; rfl
    · rw [HR.out]; show SlAt _ 4 _ (_ : List Pl.Obj).length _ (objCs _); rw [HC.out.2.2.2.2.1]; exact g1
    · rw [HT.out]; exact g2
  have q4 : (f == 4) = false := beq_eq_false_iff_ne.2 h4
  by_cases h13 : f = 1 ∨ f = 3
  · have HR := Lib.hid (show R = (l, 0) by rw [← hR, if_neg h4, if_pos h13]); clear hR h4 q4
    rcases h13 with rfl | rfl
    · go_wp2_with fail
      refine bodyPost_ret (v := .tuple #[.agg #[.slice A1 n c1, .slice A3 t c3], .int .i64 0]) (by simp [results, Try.results16, go_sem, r0, r1]) rfl ?_
      obtain ⟨g1, g2, g3⟩ := hq.ret
      refine ⟨_, rfl, ⟨A1, c1, A3, c3, ?_, ?_, ?_⟩, g3⟩
      · rw [HR.out, HT.out]; show Value.tuple #[.agg #[_, _], _] = Value.tuple #[.agg #[.slice _ (_ : List Pl.Obj).length _, _], _]; rw [HC.out.2.2.2.2.1]; rfl
      · rw [HR.out]; show SlAt _ 4 _ (_ : List Pl.Obj).length _ (objCs _); rw [HC.out.2.2.2.2.1]; exact g1
      · rw [HT.out]; exact g2
    · go_wp2_with fail
      refine bodyPost_ret (v := .tuple #[.agg #[.slice A1 n c1, .slice A3 t c3], .int .i64 0]) (by simp [results, Try.results16, go_sem, r0, r1]) rfl ?_
      obtain ⟨g1, g2, g3⟩ := hq.ret
      refine ⟨_, rfl, ⟨A1, c1, A3, c3, ?_, ?_, ?_⟩, g3⟩
      · rw [HR.out, HT.out]; show Value.tuple #[.agg #[_, _], _] = Value.tuple #[.agg #[.slice _ (_ : List Pl.Obj).length _, _], _]; rw [HC.out.2.2.2.2.1]; rfl
      · rw [HR.out]; show SlAt _ 4 _ (_ : List Pl.Obj).length _ (objCs _); rw [HC.out.2.2.2.2.1]; exact g1
      · rw [HT.out]; exact g2
  have q1 : (f == 1) = false := beq_eq_false_iff_ne.2 (by omega)
  have q3 : (f == 3) = false := beq_eq_false_iff_ne.2 (by omega)
  rw [if_neg h4, if_neg h13] at hR
  have HR0 := Lib.hid hR; clear hR h4 h13
  go_wp2_with fail
  obtain ⟨W3, hW3⟩ : ∃ W, (w3.setCell ⟨w.heap.size, 0, none⟩ (.slice A1 n c1)).setCell ⟨w.heap.size, 1, none⟩ (.slice A3 t c3) = W := ⟨_, rfl⟩
  rw [hW3] at hq ⊢
  clear hW3 x0 x1 r0 r1 xf rf hp2 hp3
  (with_reducible refine (HC.out.2.2.2.1 _ _ _ _ _ _ (Rd.own hq.obj)).mono ?_)
  rintro e w4 ⟨v, rfl, ⟨i, fd, rfl, hfd⟩, hb4⟩
  have hq4 := hq.below hb4
  have HF := Lib.hid hfd; clear hfd
  obtain ⟨x0, x1, r0, r1, xf, rf⟩ := hq4.cells
  cases fd with
  | false =>
    have HR := Lib.hid (show R = (l, 9) by rw [← HR0.out, Pl.found_no HF.out HC.out.2.2.2.2.2.2.1]; rfl)
    go_wp2_with fail
    refine bodyPost_ret (v := .tuple #[.agg #[.slice A1 n c1, .slice A3 t c3], .int .i64 9]) (by simp [results, Try.results16, go_sem, r0, r1]) rfl ?_
    obtain ⟨g1, g2, g3⟩ := hq4.ret
    refine ⟨_, rfl, ⟨A1, c1, A3, c3, ?_, ?_, ?_⟩, g3⟩
    · rw [HR.out, HT.out]; show Value.tuple #[.agg #[_, _], _] = Value.tuple #[.agg #[.slice _ (_ : List Pl.Obj).length _, _], _]; rw [HC.out.2.2.2.2.1]; rfl
    · rw [HR.out]; show SlAt _ 4 _ (_ : List Pl.Obj).length _ (objCs _); rw [HC.out.2.2.2.2.1]; exact g1
    · rw [HT.out]; exact g2
  | true =>
    obtain ⟨hi, -, hfo⟩ := Pl.found_yes HF.out
    have hin : i < n := by have := HC.out.2.2.2.2.1; omega
    have HR := Lib.hid (show R = (delL l i, 0) by rw [← HR0.out, hfo, Pl.drop_yes HF.out HC.out.2.2.2.2.2.2.1]; rfl)
    clear hfo
    go_wp2_with fail
    (with_reducible refine (delete_any (w.heap.size + 2) A1 n c1 i l _ HC.out.2.2.2.2.1 hq4.obj hn hin).mono ?_)
    rintro e w6 ⟨v, rfl, ho6, hb6, hO6⟩
    obtain ⟨A6, c6, rfl⟩ := own_form ho6
    have hq6 := hq4.put0 ho6 hb6 hO6
    have y0 : w6.cell? ⟨w.heap.size, 0, none⟩ = some (.slice A1 n c1) := (hb6.cell (p := ⟨w.heap.size, 0, none⟩) (by show w.heap.size < w.heap.size + 2; omega)).trans x0
    have yf : w6.frozen? ⟨w.heap.size, 0, none⟩ = false := (hb6.frozen (p := ⟨w.heap.size, 0, none⟩) (by show w.heap.size < w.heap.size + 2; omega)).trans (xf 0)
    have s0 : w6.cell? ⟨w.heap.size + 1, 0, none⟩ = some (.slice none 0 0) := (hb6.cell (p := ⟨w.heap.size + 1, 0, none⟩) (by show w.heap.size + 1 < w.heap.size + 2; omega)).trans r0
    have s1 : w6.cell? ⟨w.heap.size + 1, 1, none⟩ = some (.slice none 0 0) := (hb6.cell (p := ⟨w.heap.size + 1, 1, none⟩) (by show w.heap.size + 1 < w.heap.size + 2; omega)).trans r1
    have s2 : w6.cell? ⟨w.heap.size, 1, none⟩ = some (.slice A3 t c3) := (hb6.cell (p := ⟨w.heap.size, 1, none⟩) (by show w.heap.size < w.heap.size + 2; omega)).trans x1
    have sf : ∀ j, w6.frozen? ⟨w.heap.size + 1, j, none⟩ = false := fun j => (hb6.frozen (p := ⟨w.heap.size + 1, j, none⟩) (by show w.heap.size + 1 < w.heap.size + 2; omega)).trans (rf j)
    obtain ⟨k6, hk6⟩ : ∃ k, (delL l i).length = k := ⟨_, rfl⟩
    rw [hk6] at hq6 ⊢
    have HK6 := Lib.hid hk6; clear hk6 x0 x1 r0 r1 xf rf
    go_wp2_with fail
    refine bodyPost_ret (v := .tuple #[.agg #[.slice A6 k6 c6, .slice A3 t c3], .int .i64 0]) (by simp [results, Try.results16, go_sem, s0, s1]) rfl ?_
    obtain ⟨g1, g2, g3⟩ := hq6.ret
    refine ⟨_, rfl, ⟨A6, c6, A3, c3, ?_, ?_, ?_⟩, g3⟩
    · rw [HR.out, HT.out]; show Value.tuple #[.agg #[_, _], _] = Value.tuple #[.agg #[.slice _ (_ : List Pl.Obj).length _, _], _]; rw [HK6.out]; rfl
    · rw [HR.out]; show SlAt _ 4 _ (_ : List Pl.Obj).length _ (objCs _); rw [HK6.out]; exact g1
    · rw [HT.out]; exact g2
end Go.Proofs.Ytnapokalopcdkaa
