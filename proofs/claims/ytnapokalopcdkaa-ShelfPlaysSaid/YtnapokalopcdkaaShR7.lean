/- The walk of the reference's Names. -/
import Derived.Test.YtnapokalopcdkaaShR6
import Derived.Test.YtnapokalopcdkaaShW11
namespace Go.Proofs.Ytnapokalopcdkaa
open Go.RowKit
set_option linter.unusedVariables false
set_option linter.unusedSimpArgs false
attribute [local go_sem] ba_get ba_add ba_cut List.drop_zero Nat.sub_zero

def Pl.nmsR (l : List Pl.Obj) (g : Int) (p : List UInt8) : List (List UInt8) := if g = 1 then [] else Pl.nms l g p
theorem Pl.nmsR_step (l : List Pl.Obj) (f : Int) (p : List UInt8) (j : Nat) (h : j < l.length) : Pl.nmsR (l.take (j + 1)) f p = Pl.nmsR (l.take j) f p ++ (if (f != 1) && Pl.selN f p l[j] then [l[j].name] else []) := by
  unfold Pl.nmsR
  by_cases h1 : f = 1
  · subst h1; simp
  · rw [if_neg h1, if_neg h1, Pl.nms_step l f p j h]
    have : (f != 1) = true := by simpa using h1
    rw [this]; simp
theorem Pl.nmsR_len (l : List Pl.Obj) (f : Int) (p : List UInt8) : (Pl.nmsR l f p).length ≤ l.length := by
  unfold Pl.nmsR; split
  · simp
  · exact Pl.nms_len l f p
theorem sl_nil (W : World) (A : Addr) : SlAt W 1 (some A) 0 0 [] := ⟨⟨rfl, fun h => absurd h (by omega)⟩, by simp, by simp, fun _ => rfl⟩
theorem Bx0.keep {w0 W W' : World} {B : Nat} {A A' : Option Addr} {n c m c' : Nat} (h : Bx0 w0 B A n c A' m c' W) (hb : Below (B + 2) W W') : Bx0 w0 B A n c A' m c' W' where
  box := (hb.block _ (by omega)).trans h.box
  res := (hb.block _ (by omega)).trans h.res
  bel := h.bel.trans (hb.mono (by omega))
  siz := by have := hb.size; have := h.siz; omega
set_option maxRecDepth 100000 in
set_option maxHeartbeats 4000000 in
theorem rnames_all (A A' : Option Addr) (c c' : Nat) (l : List Pl.Obj) (F : List Int) (nm : List UInt8) (w : World) (n m : Nat) (hl : l.length = n) (hm : F.length = m) (hr : SlAt w 4 A n c (objCs l)) (hr' : SlAt w 1 A' m c' (ints F)) (hf : Pl.Fit 1000 l F) :
    Calls Try.prog 23 #[.agg #[.slice A n c, .slice A' m c'], .string ⟨nm.toArray⟩] w (RetB (NamesOut l (Pl.namesA l F nm).1 (Pl.namesA l F nm).2.1 (Pl.namesA l F nm).2.2) w) := by
  have hn : n ≤ 1000 := by rw [← hl]; exact hf.1
  have hmm : m ≤ 1000 := by rw [← hm]; exact hf.2.1
  obtain ⟨E, hE⟩ : ∃ E, Pl.chk l = E := ⟨_, rfl⟩
  obtain ⟨R, hR⟩ : ∃ R, Pl.namesA l F nm = R := ⟨_, rfl⟩
  rw [hR]
  have hck := fun A A' c m c' w h => rcheck_any A A' n c m c' l w hl h (by omega)
  rw [hE] at hck
  have hft := fun A A' c c' w h => fate_any A A' n c m c' F w hm h
  obtain ⟨f, hff⟩ : ∃ f, F.headD 0 = f := ⟨_, rfl⟩
  obtain ⟨g, hgg⟩ : ∃ g, nf f = g := ⟨_, rfl⟩
  obtain ⟨T, hT⟩ : ∃ T, F.tail = T := ⟨_, rfl⟩
  unfold TakenOut at hft
  simp only [hff, hgg, hT] at hft
  unfold Pl.namesA at hR
  simp only [hff, hT] at hR
  have HC := Lib.hid (And.intro hck (And.intro hft (And.intro hE (And.intro hgg hT)))); clear hck hft hE hff hgg hT
  have HL := Lib.hid (And.intro hl hm); clear hl hm
  have HR0 := Lib.hid hR; clear hR
  go_enter Try.func23, Try.ntmps23
  go_wp2_with fail
  have hb0 := (bx_new w A A' n c m c').below ((Below.refl _ _).alloc (Nat.le_refl _) (.cells #[] 9))
  have hoV : (((w.alloc (.cells #[.slice A n c, .slice A' m c'] 25)).alloc (.cells #[.slice none 0 0, .slice none 0 0] 25)).alloc (.cells #[] 9)).ownsRow (w.heap.size + 2) 9 1 (.slice (some ⟨w.heap.size + 2, 0, none⟩) 0 0) 0 [] := by
    have := World.ownsRow_made (e := 9) (size := 1) (base := w.heap.size + 2) ((w.alloc (.cells #[.slice A n c, .slice A' m c'] 25)).alloc (.cells #[.slice none 0 0, .slice none 0 0] 25)) #[] 0 (by simp <;> omega) (by simp [maxLen]) rfl
    simpa using this
  obtain ⟨V, hV⟩ : ∃ V, ((w.alloc (.cells #[.slice A n c, .slice A' m c'] 25)).alloc (.cells #[.slice none 0 0, .slice none 0 0] 25)).alloc (.cells #[] 9) = V := ⟨_, rfl⟩
  rw [hV] at hb0 hoV ⊢
  clear hV
  (with_reducible refine (HC.out.1 _ _ _ _ _ V (hr.below hb0.bel).rd).mono ?_)
  rintro e w1 ⟨v, rfl, rfl, hb1⟩
  replace hb0 := hb0.below hb1
  replace hoV := own_below hoV hb1
  obtain ⟨x0, x1, r0, r1, xf, rf⟩ := hb0.cells
  by_cases hE0 : E = 0
  rotate_left
  · have HR := Lib.hid (show R = (F, [], E) by rw [← HR0.out, HC.out.2.2.1, if_pos hE0])
    have q0 : ((E : Int) != 0) = true := by simp; omega
    clear hE0
    go_wp2_with fail
    refine bodyPost_ret (v := .tuple #[.agg #[.slice A n c, .slice A' m c'], .slice (some ⟨w.heap.size + 2, 0, none⟩) 0 0, .int .i64 (E : Int)]) (by simp [results, Try.results23, go_sem, r0, r1]) rfl ?_
    have hfin := hb0.fin (.slice A n c) (.slice A' m c')
    refine ⟨_, rfl, ⟨A, c, A', c', some ⟨w.heap.size + 2, 0, none⟩, 0, ?_, ?_, ?_, ?_⟩, by first | exact hfin | exact hfin.drew⟩
    · rw [HR.out]; simp [HL.out.1, HL.out.2]
    · (try rw [HR.out]); simp only [HL.out.1, HL.out.2]; first | exact hr.below hfin | exact hr.below hfin.drew
    · rw [HR.out]; simp only [HL.out.1, HL.out.2]; first | exact hr'.below hfin | exact hr'.below hfin.drew
    · rw [HR.out]; exact sl_nil _ _
  subst hE0
  go_wp2_with fail
  (with_reducible refine (HC.out.2.1 _ _ _ _ _ (hr'.below hb0.bel)).mono ?_)
  rintro e w3 ⟨v, rfl, ⟨A3, c3, rfl, hs3, hbk⟩, hb3⟩
  replace hb0 := hb0.below hb3
  replace hoV := own_below hoV hb3
  have hs0 := hs3.back hb0.bel hr' hbk (by rw [← HC.out.2.2.2.2, List.length_tail, HL.out.2]; omega)
  clear x0 x1 r0 r1 xf rf hs3 hbk hb3
  obtain ⟨x0, x1, r0, r1, xf, rf⟩ := hb0.cells
  obtain ⟨t, ht⟩ : ∃ t, T.length = t := ⟨_, rfl⟩
  rw [ht] at hs0 ⊢
  have HT := Lib.hid ht; clear ht
  have hp := hb0.store A A3 n c t c3
  have hR1 : R = (T, (Pl.namesR l g nm).1, (Pl.namesR l g nm).2) := by rw [← HR0.out, HC.out.2.2.1, if_neg (by simp), ← HC.out.2.2.2.1, namesR_nf]
  unfold Pl.namesR at hR1
  by_cases h4 : g = 4
  · have HR := Lib.hid (show R = (T, [], 17) by rw [hR1, if_pos h4]); clear hR1
    subst h4
    go_wp2_with fail
    refine bodyPost_ret (v := .tuple #[.agg #[.slice A n c, .slice A3 t c3], .slice (some ⟨w.heap.size + 2, 0, none⟩) 0 0, .int .i64 17]) (by simp [results, Try.results23, go_sem, r0, r1]) rfl ?_
    have hfin := hp.fin (.slice A n c) (.slice A3 t c3)
    refine ⟨_, rfl, ⟨A, c, A3, c3, some ⟨w.heap.size + 2, 0, none⟩, 0, ?_, ?_, ?_, ?_⟩, by first | exact hfin | exact hfin.drew⟩
    · rw [HR.out]; simp [HL.out.1, HL.out.2, HT.out]
    · (try rw [HR.out]); simp only [HL.out.1, HL.out.2, HT.out]; first | exact hr.below hfin | exact hr.below hfin.drew
    · rw [HR.out]; simp only [HL.out.1, HL.out.2, HT.out]; first | exact hs0.below hfin | exact hs0.below hfin.drew
    · rw [HR.out]; exact sl_nil _ _
  have q4 : (g == 4) = false := beq_eq_false_iff_ne.2 h4
  have HR := Lib.hid (show R = (T, Pl.nmsR l g nm, 0) by rw [hR1, if_neg h4]; unfold Pl.nmsR; split <;> rfl); clear hR1 h4
  have HI := Lib.hid info_str
  obtain ⟨b1, hx1⟩ : ∃ q, (g != 1) = q := ⟨_, rfl⟩
  obtain ⟨b3, hx3⟩ : ∃ q, (g != 3) = q := ⟨_, rfl⟩
  have hstep := Pl.nmsR_step l g nm
  rw [hx1] at hstep
  have HST := Lib.hid hstep; clear hstep
  have hsz0 := hb0.siz
  replace hoV := own_set (own_set hoV (b := w.heap.size) (by omega) 0 (.slice A n c)) (b := w.heap.size) (by omega) 1 (.slice A3 t c3)
  go_wp2_with fail
  obtain ⟨W3, hW3⟩ : ∃ W, (w3.setCell ⟨w.heap.size, 0, none⟩ (.slice A n c)).setCell ⟨w.heap.size, 1, none⟩ (.slice A3 t c3) = W := ⟨_, rfl⟩
  rw [hW3] at hp hoV ⊢
  clear hW3 x0 x1 r0 r1 xf rf hb0
  go_loopw [7, 32] (fun lv i wr => ∃ (j : Nat), j ≤ n ∧ i = .int .i64 (j : Nat) ∧ wr.ownsRow (w.heap.size + 2) 9 1 lv (Pl.nmsR (l.take j) g nm).length (strs (Pl.nmsR (l.take j) g nm)) ∧ Below (w.heap.size + 2) W3 wr) (fun _ i _ => n - (intOf i).toNat)
  case atStart => exact ⟨0, by omega, rfl, by simpa [Pl.nmsR, Pl.nms, strs] using hoV, Below.refl _ _⟩
  case round =>
    clear hoV
    obtain ⟨j, hj, rfl, hown, hbr⟩ := hrel
    have hpr := hp.keep hbr
    by_cases hjn : j < n
    · have hjl : j < l.length := by rw [HL.out.1]; exact hjn
      obtain ⟨b, off, rfl, hlt, p0, p1, p2, p3⟩ := (hr.below hpr.bel).rd.obj HL.out.1 hjn
      obtain ⟨y, hy⟩ : ∃ y, l[j] = y := ⟨_, rfl⟩
      have hst := HST.out j hjl
      have hle := Pl.nmsR_len (l.take j) g nm
      have hle2 : (l.take j).length ≤ j := List.length_take_le _ _
      rw [hy] at p0 p1 p2 p3 hst
      obtain ⟨ns, hns⟩ : ∃ x, Pl.nmsR (l.take j) g nm = x := ⟨_, rfl⟩
      rw [hns] at hst hown hle
      have HS := Lib.hid hst; clear hst hns hy
      have hlen : ns.length ≤ j := by omega
      clear hle hle2
      obtain ⟨on, dt, ws, hd⟩ := y
      simp only at p0 p1 p2 p3
      have hx0 : wr.cell? ⟨w.heap.size, 0, none⟩ = some (.slice (some ⟨b, off, none⟩) n c) := hpr.cells.1
      have hb1 := (Below.refl wr.heap.size wr).alloc (Nat.le_refl _) (.cells #[.string ⟨on.toArray⟩, .string ⟨dt.toArray⟩, .string ⟨ws.toArray⟩, .bool hd] 50)
      have hbr1 := hbr.alloc (by have := hpr.siz; omega) (.cells #[.string ⟨on.toArray⟩, .string ⟨dt.toArray⟩, .string ⟨ws.toArray⟩, .bool hd] 50)
      have hown1 := own_below hown hb1
      obtain ⟨q, hq⟩ : ∃ q, (on.take nm.length == nm) = q := ⟨_, rfl⟩
      by_cases hle : nm.length ≤ on.length
      rotate_left
      · have hsel : Pl.selN g nm ⟨on, dt, ws, hd⟩ = false := by unfold Pl.selN Pl.hasPre; simp [hle]
        rw [hsel] at HS
        clear hsel
        have hl' : ¬ (nm.length : Int) ≤ (on.length : Int) := by omega
        go_wp2_with fail
        go_roundw
        case rel => exact ⟨j + 1, by omega, by go_num, by rw [HS.out]; simpa using hown1, hbr1⟩
        case measure => simp [intOf]; omega
      have hsel : Pl.selN g nm ⟨on, dt, ws, hd⟩ = (q && (b3 || hd)) := by unfold Pl.selN Pl.hasPre; simp only [hle, decide_true, Bool.true_and, hq, hx3]
      rw [hsel] at HS
      clear hsel
      have hlI : (nm.length : Int) ≤ (on.length : Int) := by omega
      have HQX := Lib.hid (And.intro hq (And.intro hx1 hx3))
      cases q
      · go_wp2_with fail
        go_roundw
        case rel => exact ⟨j + 1, by omega, by go_num, by rw [HS.out]; simpa using hown1, hbr1⟩
        case measure => simp [intOf]; omega
      cases b1
      · go_wp2_with fail
        go_roundw
        case rel => exact ⟨j + 1, by omega, by go_num, by rw [HS.out]; simpa using hown1, hbr1⟩
        case measure => simp [intOf]; omega
      cases b3 <;> cases hd
      · go_wp2_with fail
        go_roundw
        case rel => exact ⟨j + 1, by omega, by go_num, by rw [HS.out]; simpa using hown1, hbr1⟩
        case measure => simp [intOf]; omega
      all_goals
        go_wp2_with (at_builtin; refine push_one rfl (.tmp 67) (.tmp 70) 35 rfl (w.heap.size + 2) 9 (.string ⟨#[]⟩) 16 Try.underlying35 HI.out rfl _ _ _ _ _ rfl hown1 (by rw [World.size_alloc]; rfl) rfl (by omega) (by omega) (by have := hpr.siz; simp; omega) ?_; intro v' w5 hown2 hb2)
        go_roundw
        case rel => exact ⟨j + 1, by omega, by go_num, by rw [HS.out]; simpa [strs] using hown2, hbr1.trans hb2⟩
        case measure => simp [intOf]; omega
    · obtain rfl : j = n := by omega
      obtain ⟨ns, hns⟩ : ∃ x, Pl.nmsR (l.take j) g nm = x := ⟨_, rfl⟩
      rw [hns] at hown
      have HN := Lib.hid (show Pl.nmsR l g nm = ns by rw [← hns, List.take_of_length_le (by rw [HL.out.1]; exact Nat.le_refl _)])
      clear hns
      obtain ⟨An, cn, rfl⟩ := own_form hown
      have hof5 := own_off hown (B := w.heap.size + 1) (by omega)
      obtain ⟨x0, x1, r0, r1, xf, rf⟩ := hpr.cells
      obtain ⟨k, hk⟩ : ∃ k, ns.length = k := ⟨_, rfl⟩
      have HK := Lib.hid hk
      rw [hk] at hown ⊢
      clear hk
      go_wp2_with fail
      refine bodyPost_ret (v := .tuple #[.agg #[.slice A j c, .slice A3 t c3], .slice An k cn, .int .i64 0]) (by simp [results, Try.results23, go_sem, r0, r1]) rfl ?_
      have hfin := hpr.fin (.slice A j c) (.slice A3 t c3)
      refine ⟨_, rfl, ⟨A, c, A3, c3, An, cn, ?_, ?_, ?_, ?_⟩, hfin⟩
      · rw [HR.out]; simp [HL.out.1, HT.out, HN.out, HK.out]
      · simp only [HL.out.1]; exact hr.below hfin
      · rw [HR.out]; simp only [HT.out]; exact hs0.below hfin
      · rw [HR.out]; simp only [HN.out, HK.out]; exact ((own_sl hown).set hof5 _ _).set hof5 _ _
end Go.Proofs.Ytnapokalopcdkaa
