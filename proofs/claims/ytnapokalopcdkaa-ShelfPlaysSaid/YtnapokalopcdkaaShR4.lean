/- The walk of the reference's without. -/
import Derived.Test.YtnapokalopcdkaaShR1
import Derived.Test.YtnapokalopcdkaaShOps2
import Derived.Test.YtnapokalopcdkaaShIns
namespace Go.Proofs.Ytnapokalopcdkaa
open Go.RowKit
set_option linter.unusedVariables false
set_option linter.unusedSimpArgs false

/-- append of one element of four cells to a row of the call's own. -/
theorem push_four {P : Program} {ops : Array Oper} {rest : List Oper} {o : Oper} {a : Act} {Q : Exit → Act → World → Prop} (hgd : o.guard = none) (s x : Operand) (t : TypeId)
    (ho : o.op = .call { callee := .builtin .append, args := #[s, x], argTypes := #[t, t] })
    (base : Nat) (e : TypeId) (z : Value) (bytes : Nat) (ht : P.underlying t = some (.slice e)) (hi : (P.info? e).map (fun i => (i.zero, i.size, i.bytes)) = some (some z, 4, bytes)) (hzs : z.cells.size = 4)
    (w : World) (v : Value) (n : Nat) (xs : List Value) (y0 y1 y2 y3 : Value) (hs : a.eval s = v) (hown : w.ownsRow base e 4 v n xs) (hx : a.eval x = .slice (some ⟨w.heap.size, 0, none⟩) 1 1) (h1 : ∀ u ∈ [y0, y1, y2, y3], u.oneCell' = true)
    (hbytes : (n + 1) * bytes ≤ 140737488355328) (hb0 : 1 ≤ bytes) (hbase : base ≤ w.heap.size)
    (h : ∀ v' w', w'.ownsRow base e 4 v' (n + 1) (xs ++ [y0, y1, y2, y3]) → Below base w w' → wpList P ops Q rest (a.put o.dst v') w') : wpList P ops Q (o :: rest) a (w.alloc (.cells #[y0, y1, y2, y3] e)) := by
  have hr : Rd (w.alloc (.cells #[y0, y1, y2, y3] e)) 4 (some ⟨w.heap.size, 0, none⟩) 1 [y0, y1, y2, y3] :=
    ⟨rfl, fun _ => ⟨w.heap.size, 0, rfl, by simp, fun j hj => by simp [go_sem]⟩⟩
  have hb : Below w.heap.size w (w.alloc (.cells #[y0, y1, y2, y3] e)) := (Below.refl _ _).alloc (Nat.le_refl _) _
  refine push_many hgd s x t ho base e z 4 bytes ht hi hzs (by decide) _ v n xs _ 1 1 [y0, y1, y2, y3] hs (own_below hown hb) hx hr (fun h => by cases h) h1 hbytes hb0 (Nat.le_trans hbase hb.size) ?_
  intro v' w' h2 h3
  exact h v' w' h2 ((hb.mono hbase).trans h3)
/-- What without leaves. -/
def WithoutOut (B : Nat) (A' : Option Addr) (m c' : Nat) (r : List Pl.Obj) (v : Value) (w : World) : Prop :=
  ∃ A1 c1, v = .agg #[.slice A1 r.length c1, .slice A' m c'] ∧ w.ownsRow B 50 4 (.slice A1 r.length c1) r.length (objCs r)
theorem filt_step (p : Pl.Obj → Bool) (l : List Pl.Obj) (j : Nat) (h : j < l.length) : (l.take (j + 1)).filter p = (l.take j).filter p ++ (if p l[j] then [l[j]] else []) := by
  rw [List.take_succ_eq_append_getElem h, List.filter_append]
  by_cases hs : p l[j] = true
  · simp [hs]
  · simp [hs]
theorem filt_len (p : Pl.Obj → Bool) (l : List Pl.Obj) (j : Nat) : ((l.take j).filter p).length ≤ j :=
  Nat.le_trans (List.length_filter_le _ _) (List.length_take_le _ _)
theorem objCs_snoc (l : List Pl.Obj) (o : Pl.Obj) : objCs (l ++ [o]) = objCs l ++ objC o := by simp [objCs]
theorem gt_cases (a b : List UInt8) : ((Op.bytesLess a b = false ∧ (a == b) = false) ∧ Pl.less b a = true) ∨ (Op.bytesLess a b = true ∧ Pl.less b a = false) ∨ (Op.bytesLess a b = false ∧ (a == b) = true) ∧ Pl.less b a = false := by
  rcases Pl.less_tri a b with h | h | h
  · exact .inr (.inl ⟨h, Pl.less_asymm h⟩)
  · subst h
    exact .inr (.inr ⟨⟨Pl.less_irrefl a, by simp⟩, Pl.less_irrefl a⟩)
  · refine .inl ⟨⟨Pl.less_asymm h, ?_⟩, h⟩
    rw [beq_eq_false_iff_ne]
    rintro rfl
    rw [Pl.less_irrefl] at h; cases h
theorem objC_one1 (o : Pl.Obj) : ∀ u ∈ objC o, u.oneCell' = true := by
  intro u hu
  simp only [objC, List.mem_cons, List.not_mem_nil, or_false] at hu
  rcases hu with rfl | rfl | rfl | rfl <;> rfl
set_option maxRecDepth 100000 in
set_option maxHeartbeats 2000000 in
theorem without_any (A A' : Option Addr) (n c m c' : Nat) (l : List Pl.Obj) (nm : List UInt8) (wi : Bool) (x : Pl.Obj) (w : World) (hl : l.length = n) (hr : Rd w 4 A n (objCs l)) (hn : n ≤ 1000000) :
    Calls Try.prog 36 #[.agg #[.slice A n c, .slice A' m c'], .string ⟨nm.toArray⟩, .bool wi, objV x] w
      (RetB (WithoutOut (w.heap.size + 3) A' m c' (Pl.below l nm ++ ((if wi then [x] else []) ++ Pl.above l nm))) w) := by
  obtain ⟨R, hR⟩ : ∃ R, Pl.below l nm ++ ((if wi then [x] else []) ++ Pl.above l nm) = R := ⟨_, rfl⟩
  rw [hR]
  unfold objV
  have HL := Lib.hid hl; clear hl
  have HR := Lib.hid hR; clear hR
  have HI := Lib.hid info_obj
  obtain ⟨xn, xd, xw, xh⟩ := x
  go_enter Try.func36, Try.ntmps36
  go_wp2_with fail
  obtain ⟨V, hV⟩ : ∃ V, (((w.alloc (.cells #[.slice A n c, .slice A' m c'] 25)).alloc (.cells #[.string ⟨xn.toArray⟩, .string ⟨xd.toArray⟩, .string ⟨xw.toArray⟩, .bool xh] 50)).alloc (.cells #[.slice none 0 0, .slice none 0 0] 25)).alloc (.cells #[] 50) = V := ⟨_, rfl⟩
  have hx0 : V.heap[w.heap.size]? = some (.cells #[.slice A n c, .slice A' m c'] 25 (0, 0)) := by rw [← hV]; exact (Below.heap_alloc _ _ _ (by simp <;> omega)).trans ((Below.heap_alloc _ _ _ (by simp <;> omega)).trans ((Below.heap_alloc _ _ _ (by simp <;> omega)).trans (heap_alloc_new w _)))
  have hx1 : V.heap[w.heap.size + 1]? = some (.cells #[.string ⟨xn.toArray⟩, .string ⟨xd.toArray⟩, .string ⟨xw.toArray⟩, .bool xh] 50 (0, 0)) := by rw [← hV]; exact (Below.heap_alloc _ _ _ (by simp <;> omega)).trans ((Below.heap_alloc _ _ _ (by simp <;> omega)).trans (heap_alloc_2 w _ _))
  have hx2 : V.heap[w.heap.size + 2]? = some (.cells #[.slice none 0 0, .slice none 0 0] 25 (0, 0)) := by rw [← hV]; exact (Below.heap_alloc _ _ _ (by simp <;> omega)).trans (by have := heap_alloc_2 (w.alloc (.cells #[.slice A n c, .slice A' m c'] 25)) (.cells #[.string ⟨xn.toArray⟩, .string ⟨xd.toArray⟩, .string ⟨xw.toArray⟩, .bool xh] 50) (.cells #[.slice none 0 0, .slice none 0 0] 25); simpa using this)
  have hbV : Below w.heap.size w V := by rw [← hV]; exact ((((Below.refl _ _).alloc (Nat.le_refl _) _).alloc (by simp <;> omega) _).alloc (by simp <;> omega) _).alloc (by simp <;> omega) _
  have hsV : w.heap.size + 4 ≤ V.heap.size := by rw [← hV]; simp
  have hoV : V.ownsRow (w.heap.size + 3) 50 4 (.slice (some ⟨w.heap.size + 3, 0, none⟩) 0 0) 0 [] := by
    rw [← hV]
    have := World.ownsRow_made (e := 50) (size := 4) (base := w.heap.size + 3) (((w.alloc (.cells #[.slice A n c, .slice A' m c'] 25)).alloc (.cells #[.string ⟨xn.toArray⟩, .string ⟨xd.toArray⟩, .string ⟨xw.toArray⟩, .bool xh] 50)).alloc (.cells #[.slice none 0 0, .slice none 0 0] 25)) #[] 0 (by simp <;> omega) (by simp [maxLen]) rfl
    simpa using this
  have hrV := hr.below hbV
  rw [hV]
  have HX := Lib.hid (And.intro hx0 (And.intro hx1 hx2)); clear hx0 hx1 hx2 hV
  have hr0 := hr; clear hr hrV
  -- the names below
  go_loopw [9, 16] (fun lv i wr => ∃ (j : Nat), j ≤ n ∧ i = .int .i64 (j : Nat) ∧ wr.ownsRow (w.heap.size + 3) 50 4 lv (Pl.below (l.take j) nm).length (objCs (Pl.below (l.take j) nm)) ∧ Below (w.heap.size + 3) V wr) (fun _ i _ => n - (intOf i).toNat)
  case atStart => exact ⟨0, by omega, rfl, hoV, Below.refl _ _⟩
  case round =>
    obtain ⟨j, hj, rfl, hown, hbr⟩ := hrel
    have y0 := (hbr.cell (p := ⟨w.heap.size, 0, none⟩) (by show w.heap.size < w.heap.size + 3; omega)).trans (cell_row V _ 0 _ _ HX.out.1)
    have y1 := (hbr.cell (p := ⟨w.heap.size, 1, none⟩) (by show w.heap.size < w.heap.size + 3; omega)).trans (cell_row V _ 1 _ _ HX.out.1)
    simp only [List.getElem?_toArray, List.getElem?_cons_succ, List.getElem?_cons_zero] at y0 y1
    have hrd : Rd wr 4 A n (objCs l) := hr0.keep (hbV.trans (hbr.mono (by omega))) (Nat.le_refl _)
    by_cases hjn : j < n
    · have hjl : j < l.length := by rw [HL.out]; exact hjn
      obtain ⟨b, off, rfl, hlt, p0, p1, p2, p3⟩ := hrd.obj HL.out hjn
      have hst := filt_step (fun o => Pl.less o.name nm) l j hjl
      have hle := filt_len (fun o => Pl.less o.name nm) l j
      obtain ⟨y, hy⟩ : ∃ y, l[j] = y := ⟨_, rfl⟩
      rw [hy] at p0 p1 p2 p3 hst
      obtain ⟨acc, hacc⟩ : ∃ acc, Pl.below (l.take j) nm = acc := ⟨_, rfl⟩
      rw [hacc] at hown
      rw [show (l.take j).filter (fun o => Pl.less o.name nm) = acc from hacc] at hst hle
      have HS := Lib.hid (show Pl.below (l.take (j + 1)) nm = _ from hst); clear hst hacc hy
      obtain ⟨on, od, ow, oh⟩ := y
      simp only at p0 p1 p2 p3
      obtain ⟨q, hq⟩ : ∃ q, Op.bytesLess on nm = q := ⟨_, rfl⟩
      cases q
      · go_wp2_with fail
        go_roundw
        case rel => exact ⟨j + 1, by omega, by go_num, by rw [HS.out]; simp only [Pl.less, hq]; simpa using hown, hbr⟩
        case measure => simp [intOf]; omega
      · go_wp2_with (at_builtin; refine push_four rfl (.tmp 27) (.tmp 33) 22 rfl (w.heap.size + 3) 50 (.agg #[.string ⟨#[]⟩, .string ⟨#[]⟩, .string ⟨#[]⟩, .bool false]) 56 Try.underlying22 HI.out rfl _ _ _ _ _ _ _ _ rfl hown rfl (objC_one1 ⟨on, od, ow, oh⟩) (by omega) (by omega) (by have := hbr.size; omega) ?_; intro v' w5 hown2 hb2)
        go_roundw
        case rel => exact ⟨j + 1, by omega, by go_num, by rw [HS.out]; simp only [Pl.less, hq, if_true, objCs_snoc, List.length_append]; exact hown2, hbr.trans hb2⟩
        case measure => simp [intOf]; omega
    · obtain rfl : j = n := by omega
      obtain ⟨acc0, hacc⟩ : ∃ acc, Pl.below (l.take j) nm = acc := ⟨_, rfl⟩
      have hle : acc0.length ≤ j := by rw [← hacc]; exact filt_len _ l j
      rw [hacc] at hown
      rw [List.take_of_length_le (by rw [HL.out]; exact Nat.le_refl _)] at hacc
      have HA := Lib.hid hacc; clear hacc
      have x0 := (hbr.cell (p := ⟨w.heap.size + 1, 0, none⟩) (by show w.heap.size + 1 < w.heap.size + 3; omega)).trans (cell_row V _ 0 _ _ HX.out.2.1)
      have x1 := (hbr.cell (p := ⟨w.heap.size + 1, 1, none⟩) (by show w.heap.size + 1 < w.heap.size + 3; omega)).trans (cell_row V _ 1 _ _ HX.out.2.1)
      have x2 := (hbr.cell (p := ⟨w.heap.size + 1, 2, none⟩) (by show w.heap.size + 1 < w.heap.size + 3; omega)).trans (cell_row V _ 2 _ _ HX.out.2.1)
      have x3 := (hbr.cell (p := ⟨w.heap.size + 1, 3, none⟩) (by show w.heap.size + 1 < w.heap.size + 3; omega)).trans (cell_row V _ 3 _ _ HX.out.2.1)
      simp only [List.getElem?_toArray, List.getElem?_cons_succ, List.getElem?_cons_zero] at x0 x1 x2 x3
      cases wi
      case' true =>
        go_wp2_with (at_builtin; refine push_four rfl (.tmp 37) (.tmp 39) 22 rfl (w.heap.size + 3) 50 (.agg #[.string ⟨#[]⟩, .string ⟨#[]⟩, .string ⟨#[]⟩, .bool false]) 56 Try.underlying22 HI.out rfl _ _ _ _ _ _ _ _ rfl hown rfl (objC_one1 ⟨xn, xd, xw, xh⟩) (by omega) (by omega) (by have := hbr.size; omega) ?_; intro lv2 w2 hown2 hb2; have yy := (hb2.cell (p := ⟨w.heap.size, 0, none⟩) (by show w.heap.size < w.heap.size + 3; omega)).trans y0)
        have hb3 := hbr.trans hb2
        obtain ⟨acc, hacc⟩ : ∃ acc, acc0 ++ [(⟨xn, xd, xw, xh⟩ : Pl.Obj)] = acc := ⟨_, rfl⟩
        have hown3 : w2.ownsRow (w.heap.size + 3) 50 4 lv2 acc.length (objCs acc) := by rw [← hacc, objCs_snoc, List.length_append]; exact hown2
        have hla : acc.length ≤ j + 1 := by rw [← hacc]; simp; omega
        have HRR := Lib.hid (show R = acc ++ Pl.above l nm by rw [← HR.out, HA.out, ← hacc]; simp)
        clear hown hown2 hbr hb2 hacc x0 x1 x2 x3 y0 y1 HR HA yy
      case' false =>
        obtain ⟨acc, hacc⟩ : ∃ acc, acc0 = acc := ⟨_, rfl⟩
        obtain ⟨lv2, hlv2⟩ : ∃ v, u9 = v := ⟨_, rfl⟩
        obtain ⟨w2, hw2⟩ : ∃ v, wr = v := ⟨_, rfl⟩
        have hown3 : w2.ownsRow (w.heap.size + 3) 50 4 lv2 acc.length (objCs acc) := by rw [← hacc, ← hlv2, ← hw2]; exact hown
        have hla : acc.length ≤ j + 1 := by rw [← hacc]; omega
        have HRR := Lib.hid (show R = acc ++ Pl.above l nm by rw [← HR.out, HA.out, ← hacc]; simp)
        have hb3 := hbr
        rw [hw2] at hb3
        subst hlv2 hw2
        clear hown hbr hacc x0 x1 x2 x3 HR HA
      all_goals
        have y0 := (hb3.cell (p := ⟨w.heap.size, 0, none⟩) (by show w.heap.size < w.heap.size + 3; omega)).trans (cell_row V _ 0 _ _ HX.out.1)
        simp only [List.getElem?_toArray, List.getElem?_cons_succ, List.getElem?_cons_zero] at y0
        (try go_wp2_with fail)
        go_loopw [9, 44] (fun lv i wr => ∃ (i' : Nat), i' ≤ j ∧ i = .int .i64 (i' : Nat) ∧ wr.ownsRow (w.heap.size + 3) 50 4 lv (acc ++ Pl.above (l.take i') nm).length (objCs (acc ++ Pl.above (l.take i') nm)) ∧ Below (w.heap.size + 3) V wr) (fun _ i _ => j - (intOf i).toNat)
        case atStart => exact ⟨0, by omega, rfl, by simpa [Pl.above] using hown3, hb3⟩
        case round =>
          clear y0 hown3 hb3
          obtain ⟨i, hi, rfl, hown, hbr⟩ := hrel
          have y0 := (hbr.cell (p := ⟨w.heap.size, 0, none⟩) (by show w.heap.size < w.heap.size + 3; omega)).trans (cell_row V _ 0 _ _ HX.out.1)
          have y1 := (hbr.cell (p := ⟨w.heap.size, 1, none⟩) (by show w.heap.size < w.heap.size + 3; omega)).trans (cell_row V _ 1 _ _ HX.out.1)
          have yf := fun k => (hbr.frozen (p := ⟨w.heap.size, k, none⟩) (by show w.heap.size < w.heap.size + 3; omega)).trans (frozen_of V _ k _ _ HX.out.1)
          have r0 := (hbr.cell (p := ⟨w.heap.size + 2, 0, none⟩) (by show w.heap.size + 2 < w.heap.size + 3; omega)).trans (cell_row V _ 0 _ _ HX.out.2.2)
          have r1 := (hbr.cell (p := ⟨w.heap.size + 2, 1, none⟩) (by show w.heap.size + 2 < w.heap.size + 3; omega)).trans (cell_row V _ 1 _ _ HX.out.2.2)
          have rf := fun k => (hbr.frozen (p := ⟨w.heap.size + 2, k, none⟩) (by show w.heap.size + 2 < w.heap.size + 3; omega)).trans (frozen_of V _ k _ _ HX.out.2.2)
          simp only [List.getElem?_toArray, List.getElem?_cons_succ, List.getElem?_cons_zero] at y0 y1 r0 r1
          have hrd : Rd wr 4 A j (objCs l) := hr0.keep (hbV.trans (hbr.mono (by omega))) (Nat.le_refl _)
          by_cases hjn : i < j
          · have hjl : i < l.length := by rw [HL.out]; exact hjn
            obtain ⟨b, off, rfl, hlt, p0, p1, p2, p3⟩ := hrd.obj HL.out hjn
            have hst := filt_step (fun o => Pl.less nm o.name) l i hjl
            have hle := filt_len (fun o => Pl.less nm o.name) l i
            obtain ⟨y, hy⟩ : ∃ y, l[i] = y := ⟨_, rfl⟩
            rw [hy] at p0 p1 p2 p3 hst
            obtain ⟨acc1, hacc⟩ : ∃ acc, Pl.above (l.take i) nm = acc := ⟨_, rfl⟩
            rw [hacc] at hown
            rw [show (l.take i).filter (fun o => Pl.less nm o.name) = acc1 from hacc] at hst hle
            have HS := Lib.hid (show Pl.above (l.take (i + 1)) nm = _ from hst); clear hst hacc hy
            obtain ⟨acc2, hacc2⟩ : ∃ x, acc ++ acc1 = x := ⟨_, rfl⟩
            have hl2 : acc2.length ≤ 3000000 := by rw [← hacc2]; simp; omega
            rw [hacc2] at hown
            have HA2 := Lib.hid hacc2; clear hacc2
            obtain ⟨on, od, ow, oh⟩ := y
            simp only at p0 p1 p2 p3
            rcases gt_cases on nm with ⟨⟨g1, g2⟩, hq⟩ | ⟨g1, hq⟩ | ⟨⟨g1, g2⟩, hq⟩
            · have HQ := Lib.hid hq; clear hq
              go_wp2_with (at_builtin; refine push_four rfl (.tmp 55) (.tmp 61) 22 rfl (w.heap.size + 3) 50 (.agg #[.string ⟨#[]⟩, .string ⟨#[]⟩, .string ⟨#[]⟩, .bool false]) 56 Try.underlying22 HI.out rfl _ _ _ _ _ _ _ _ rfl hown rfl (objC_one1 ⟨on, od, ow, oh⟩) (by omega) (by omega) (by have := hbr.size; omega) ?_; intro v' w5 hown2 hb2)
              go_roundw
              case rel => exact ⟨i + 1, by omega, by go_num, by rw [HS.out, ← List.append_assoc, HA2.out]; simp only [HQ.out, if_true, objCs_snoc, List.length_append]; exact hown2, hbr.trans hb2⟩
              case measure => simp [intOf]; omega
            all_goals
              have HQ := Lib.hid hq; clear hq
              go_wp2_with fail
              go_roundw
              case rel => exact ⟨i + 1, by omega, by go_num, by rw [HS.out, ← List.append_assoc, HA2.out]; simp only [HQ.out]; simpa using hown, hbr⟩
              case measure => simp [intOf]; omega
          · obtain rfl : i = j := by omega
            rw [List.take_of_length_le (by rw [HL.out]; exact Nat.le_refl _), ← HRR.out] at hown
            obtain ⟨A1, c1, rfl⟩ := own_form hown
            obtain ⟨k, hk⟩ : ∃ k, R.length = k := ⟨_, rfl⟩
            have HK := Lib.hid hk
            rw [hk] at hown ⊢
            clear hk
            go_wp2_with fail
            refine bodyPost_ret (v := .agg #[.slice A1 k c1, .slice A' m c']) (by simp [results, Try.results36, go_sem, r0, r1]) rfl ⟨_, rfl, ⟨A1, c1, by rw [HK.out], ?_⟩, ?_⟩
            · rw [HK.out]; exact own_set (own_set (own_set hown (by omega) _ _) (by omega) _ _) (by omega) _ _
            · exact (((hbV.trans (hbr.mono (by omega))).setCell (by simp <;> omega) _).setCell (by simp <;> omega) _).setCell (by simp <;> omega) _
end Go.Proofs.Ytnapokalopcdkaa
