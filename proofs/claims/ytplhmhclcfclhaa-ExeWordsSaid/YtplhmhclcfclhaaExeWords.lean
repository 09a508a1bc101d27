/- ExeWords holds: instructions that are put into a program come out of its first page as the same instructions. No condition. -/
import Derived.Test.YtplhmhclcfclhaaOpenI
import Derived.Test.YtplhmhclcfclhaaIsaW2
import Derived.Test.YtplhmhclcfclhaaExeReads
namespace Go.Proofs.Ytplhmhclcfclhaa
open Go.ChangeShapes Go.WideShapes Go.ChangeAt Go.RowKit
set_option linter.unusedVariables false
set_option linter.unusedSimpArgs false
attribute [local go_sem] ba_get ba_cut ba_add

theorem Rd.ins {w : World} {A : Option Addr} {n : Nat} {l : List Pl.Ins} (h : Rd w 5 A n (insCs l)) (hn : l.length = n) {i : Nat} (hi : i < n) :
    ∃ b off, A = some ⟨b, off, none⟩ ∧ b < w.heap.size ∧ w.cell? ⟨b, off + i * 5, none⟩ = some (.int .u8 ((l[i]'(by omega)).op : Int)) ∧ w.cell? ⟨b, off + i * 5 + 1, none⟩ = some (.int .u8 ((l[i]'(by omega)).a : Int)) ∧
      w.cell? ⟨b, off + i * 5 + 2, none⟩ = some (.int .u8 ((l[i]'(by omega)).b : Int)) ∧ w.cell? ⟨b, off + i * 5 + 3, none⟩ = some (.int .u8 ((l[i]'(by omega)).c : Int)) ∧ w.cell? ⟨b, off + i * 5 + 4, none⟩ = some (.int .i32 (l[i]'(by omega)).imm) := by
  obtain ⟨b, off, rfl, hb, hc⟩ := h.all (by omega)
  have hl := h.len
  have g := fun j hj => insCs_get l i j (by omega) hj
  refine ⟨b, off, rfl, hb, ?_, ?_, ?_, ?_, ?_⟩
  · rw [hc (i * 5) (by omega)]; exact g 0 (by omega)
  · rw [Nat.add_assoc, hc (i * 5 + 1) (by omega)]; exact g 1 (by omega)
  · rw [Nat.add_assoc, hc (i * 5 + 2) (by omega)]; exact g 2 (by omega)
  · rw [Nat.add_assoc, hc (i * 5 + 3) (by omega)]; exact g 3 (by omega)
  · rw [Nat.add_assoc, hc (i * 5 + 4) (by omega)]; exact g 4 (by omega)

/-- The words of the first j instructions. -/
def wds (l : List Pl.Ins) (j : Nat) : List Nat := (l.take j).map Pl.wordOf
theorem wds_len (l : List Pl.Ins) (j : Nat) (h : j ≤ l.length) : (wds l j).length = j := by simp [wds]; omega
theorem wds_snoc (l : List Pl.Ins) (j : Nat) (h : j < l.length) : wds l (j + 1) = wds l j ++ [Pl.wordOf l[j]] := by
  unfold wds; rw [List.take_succ_eq_append_getElem h, List.map_append]; rfl
def AllOk (l : List Pl.Ins) (j : Nat) : Prop := ∀ x ∈ l.take j, Pl.encE x = 0
theorem AllOk.snoc {l : List Pl.Ins} {j : Nat} (h : AllOk l j) (hj : j < l.length) (he : Pl.encE l[j] = 0) : AllOk l (j + 1) := by
  intro x hx
  rw [List.take_succ_eq_append_getElem hj, List.mem_append] at hx
  rcases hx with hx | hx
  · exact h x hx
  · rw [List.mem_singleton] at hx; rw [hx]; exact he
/-- The program of these words. -/
def wx (l : List Pl.Ins) : Pl.Exe := ⟨wds l l.length, [], 0, 0⟩
theorem wx_text (l : List Pl.Ins) : (wx l).text = l.map Pl.wordOf := by simp [wx, wds]
theorem wx_chk (l : List Pl.Ins) (h1 : 1 ≤ l.length) (h2 : l.length ≤ 32) : Pl.chk (wx l) = 0 := by
  refine chk_good ?_
  simp only [wx, wds_len l l.length (Nat.le_refl _), Pl.pagesN, List.length_nil]
  omega
theorem wx_lays (l : List Pl.Ins) (h1 : 1 ≤ l.length) (h2 : l.length ≤ 32) : Pl.lays (wx l) = [⟨0, Pl.pageAt (Pl.wordsB (l.map Pl.wordOf)) 0, false⟩, ⟨15, Pl.zs 128, true⟩] := by
  rw [Pl.lays_eq]
  have e1 : Pl.pgs (4 * (wx l).text.length) = 1 := by rw [wx_text]; simp [Pl.pgs]; omega
  have e2 : Pl.pgs ((wx l).data.length + (wx l).room.toNat) = 0 := by simp [wx, Pl.pgs]
  rw [e1, e2, wx_text]
  simp [List.range_succ]
theorem wx_word (l : List Pl.Ins) (h2 : l.length ≤ 32) (h : AllOk l l.length) (i : Nat) (hi : i < l.length) : Pl.getN (((Pl.pageAt (Pl.wordsB (l.map Pl.wordOf)) 0).drop (4 * i)).take 4) = Pl.wordOf l[i] := by
  have hl := Pl.wordsB_len (l.map Pl.wordOf)
  rw [List.length_map] at hl
  unfold Pl.pageAt Pl.padP
  rw [Nat.mul_zero, List.drop_zero, List.take_of_length_le (l := Pl.wordsB (l.map Pl.wordOf)) (by omega), Pl.wordsB_at _ i (by simpa using hi), List.getElem_map]
  exact Pl.get_put _ 4 (by have := Pl.word_lt (h l[i] (by rw [List.take_length]; exact List.getElem_mem hi)); omega)

set_option maxRecDepth 100000 in
set_option maxHeartbeats 2000000 in
theorem exeWords_walk (A : Option Addr) (n c : Nat) (l : List Pl.Ins) (w : World) (hl : l.length = n ∧ Rd w 5 A n (insCs l) ∧ n ≤ 140737488355328) (hok : ∀ x ∈ l, Pl.InsOk x) :
    Calls Try.prog 13 #[.slice A n c] w (RetB (fun v _ => v = .bool true) w) := by
  obtain ⟨hln, ha, hnn⟩ := hl
  by_cases hg : 32 < n ∨ n = 0
  · have hg' : 32 < n ∨ ((n : Int) == 0) = true := by
      rcases hg with h | h
      · exact .inl h
      · exact .inr (by simp [h])
    clear hg
    rcases hg' with hg | hg
    all_goals go_enter Try.func13, Try.ntmps13
    all_goals go_wp2_with fail
    all_goals (with_reducible refine (awake_any _).mono ?_)
    all_goals
      rintro e w1 ⟨v, rfl, rfl, hb1⟩
      go_wp2_with fail
      go_ret
      exact ⟨_, rfl, rfl, hb1⟩
  have h1 : 1 ≤ n := by omega
  have h2 : n ≤ 32 := by omega
  have hz : ((n : Int) == 0) = false := beq_eq_false_iff_ne.2 (by omega)
  have HL := Lib.hid (And.intro hln hok); clear hln hok hg
  have HI := Lib.hid info_u32
  go_enter Try.func13, Try.ntmps13
  go_wp2_with fail
  obtain ⟨V, hV⟩ : ∃ V, w.alloc (.cells #[.slice none 0 0, .string ⟨#[]⟩, .int .i64 0, .int .u32 0] 43) = V := ⟨_, rfl⟩
  have hx0 : V.heap[w.heap.size]? = some (.cells #[.slice none 0 0, .string ⟨#[]⟩, .int .i64 0, .int .u32 0] 43 (0, 0)) := by rw [← hV]; exact heap_alloc_new w _
  have hbV : Below w.heap.size w V := by rw [← hV]; exact (Below.refl _ _).alloc (Nat.le_refl _) _
  have hsV : w.heap.size + 1 ≤ V.heap.size := by rw [← hV]; simp
  rw [hV]
  have HX0 := Lib.hid hx0; clear hx0 hV
  go_loopw [4] (fun i wr => ∃ (j c' : Nat) (A' : Option Addr), j ≤ n ∧ i = .int .i64 (j : Nat) ∧ Hid (wr.heap[w.heap.size]? = some (.cells #[.slice A' j c', .string ⟨#[]⟩, .int .i64 0, .int .u32 0] 43 (0, 0))) ∧ wr.ownsRow (w.heap.size + 1) 41 1 (.slice A' j c') j (u32s (wds l j)) ∧ Below w.heap.size w wr ∧ w.heap.size + 1 ≤ wr.heap.size ∧ Hid (AllOk l j)) (fun i _ => n - (intOf i).toNat)
  case atStart => exact ⟨0, 0, none, by omega, rfl, HX0.out, ⟨rfl, .inl ⟨rfl, rfl⟩⟩, hbV, hsV, fun x hx => by simp at hx⟩
  case round =>
    clear hbV hsV
    obtain ⟨j, c', A', hj, rfl, HX, hown, hbx, hsx, HA⟩ := hrel
    have hx0 : wr.cell? ⟨w.heap.size, 0, none⟩ = some (.slice A' j c') := cell_row wr _ 0 _ _ HX.out
    by_cases hjn : j < n
    · have hjl : j < l.length := by rw [HL.out.1]; exact hjn
      obtain ⟨b, off, rfl, hlt, p0, p1, p2, p3, p4⟩ := (ha.below hbx).ins HL.out.1 hjn
      obtain ⟨y, hy⟩ : ∃ y, l[j] = y := ⟨_, rfl⟩
      have hyo : Pl.InsOk y := by rw [← hy]; exact HL.out.2 _ (List.getElem_mem hjl)
      have hen := enc_any y wr hyo
      rw [hy] at p0 p1 p2 p3 p4
      obtain ⟨E, hE⟩ : ∃ E, Pl.encE y = E := ⟨_, rfl⟩
      obtain ⟨G, hG⟩ : ∃ G, Pl.encW y = G := ⟨_, rfl⟩
      unfold encV insV at hen
      rw [hE, hG] at hen
      have HY := Lib.hid (And.intro hy (And.intro hE hG)); clear hy hE hG
      obtain ⟨op, ra, rb, rc, imm⟩ := y
      simp only at p0 p1 p2 p3 p4 hen
      go_wp2_with fail
      (with_reducible refine Calls.mono hen ?_)
      rintro e w1 ⟨v, rfl, rfl, hb1⟩
      clear hen p0 p1 p2 p3 p4
      have hbx1 := hbx.trans (hb1.mono hbx.size)
      have hX1 := (hb1.block _ hsx).trans HX.out
      have hx1 : w1.cell? ⟨w.heap.size, 0, none⟩ = some (.slice A' j c') := cell_row w1 _ 0 _ _ hX1
      have HX1 := Lib.hid hX1; clear hX1 hx0
      have hs1 : w.heap.size + 1 ≤ w1.heap.size := Nat.le_trans hsx hb1.size
      have hs0 : w.heap.size < w1.heap.size := hs1
      have hown1 := own_below hown hb1
      by_cases h0 : E = 0
      · subst h0
        have hGw : G = Pl.wordOf l[j] := by rw [HY.out.1, ← HY.out.2.2]; unfold Pl.encW; rw [HY.out.2.1, if_pos rfl]
        have hA2 := HA.out.snoc hjl (by rw [HY.out.1]; exact HY.out.2.1)
        have HG := Lib.hid (And.intro hGw hA2); clear hGw hA2
        go_wp2_with (at_builtin; refine push_one rfl (.tmp 40) (.tmp 42) 40 rfl (w.heap.size + 1) 41 _ 4 Try.underlying40 HI.out rfl w1 _ _ _ (.int .u32 (G : Int)) rfl hown1 rfl rfl (by omega) (by omega) hs1 ?_; intro v2 w2 hown2 hb2; obtain ⟨A2, c2, rfl⟩ := own_form hown2; have HX2 := Lib.hid ((hb2.block _ (Nat.lt_succ_self _)).trans HX1.out); have hx2 : w2.cell? ⟨w.heap.size, 0, none⟩ = some (.slice A' j c') := cell_row w2 _ 0 _ _ HX2.out; have hf2 : w2.frozen? ⟨w.heap.size, 0, none⟩ = false := frozen_of w2 _ 0 _ _ HX2.out)
        go_roundw
        case rel =>
          have hb12 : Below w.heap.size w w2 := hbx1.trans (hb2.mono (Nat.le_succ _))
          refine ⟨j + 1, c2, A2, by omega, by go_num, ?_, ?_, hb12.setCell (by simp) _, ?_, HG.out.2⟩
          · exact set_at w2 _ 0 _ _ _ HX2.out
          · rw [wds_snoc l j hjl, ← HG.out.1]
            have := ownsRow_setCell_below hown2 (a := ⟨w.heap.size, 0, none⟩) (by simp) (.slice A2 (j + 1) c2)
            simpa [u32s] using this
          · simp [go_sem]; exact lt_of_blk HX2.out
        case measure => simp [intOf]; omega
      · have hE' : ((E : Int) != 0) = true := by simp; omega
        go_wp2_with fail
        (with_reducible refine (awake_any _).mono ?_)
        rintro e w2 ⟨v, rfl, rfl, hb2⟩
        go_wp2_with fail
        go_ret
        exact ⟨_, rfl, rfl, hbx1.trans (hb2.mono hbx1.size)⟩
    · obtain rfl : j = n := by omega
      have hx1 : wr.cell? ⟨w.heap.size, 1, none⟩ = some (.string ⟨#[]⟩) := cell_row wr _ 1 _ _ HX.out
      have hx2 : wr.cell? ⟨w.heap.size, 2, none⟩ = some (.int .i64 0) := cell_row wr _ 2 _ _ HX.out
      have hx3 : wr.cell? ⟨w.heap.size, 3, none⟩ = some (.int .u32 0) := cell_row wr _ 3 _ _ HX.out
      have hlx : (wx l).text.length = j := by rw [wx_text, List.length_map]; exact HL.out.1
      have hAll : AllOk l l.length := by rw [HL.out.1]; exact HA.out
      have hl32 : l.length ≤ 32 := by rw [HL.out.1]; exact h2
      have hl1 : 1 ≤ l.length := by rw [HL.out.1]; exact h1
      have hrd : Rd wr 1 A' (wx l).text.length (u32s (wx l).text) := by
        have := Rd.own hown
        rw [hlx]
        rw [show (wx l).text = wds l j by simp only [wx]; rw [HL.out.1]]
        exact this
      have hlay := lay_any A' c' (wx l) wr ⟨by rw [hlx]; omega, by simp [wx], by simp [wx], by simp [wx], by simp [wx]⟩ hrd (by
        intro y hy
        rw [wx_text] at hy
        obtain ⟨z, hz, rfl⟩ := List.mem_map.1 hy
        exact Pl.word_lt (hAll z (by rw [List.take_length]; exact hz)))
      have hev : exeV A' c' (wx l) = .agg #[.slice A' j c', .string ⟨#[]⟩, .int .i64 0, .int .u32 0] := by unfold exeV; rw [hlx]; rfl
      rw [hev] at hlay
      obtain ⟨pg, hpg⟩ : ∃ pg, Pl.pageAt (Pl.wordsB (l.map Pl.wordOf)) 0 = pg := ⟨_, rfl⟩
      have hpl : pg.length = 128 := by rw [← hpg]; exact Pl.pageAt_len _ _
      have hlo : ∀ v W, LayOut (wx l) v W → ∃ A c, v = .tuple #[.slice A 2 c, .int .i64 0] ∧ Rd W 3 A 2 (layCs [⟨0, pg, false⟩, ⟨15, Pl.zs 128, true⟩]) := by
        intro v W h
        unfold LayOut at h
        rw [wx_chk l hl1 hl32, if_pos rfl, wx_lays l hl1 hl32, hpg] at h
        exact h
      have hwd := wx_word l hl32 hAll
      rw [hpg] at hwd
      have hpb : ((pg.length : Int) != 128) = false := by rw [hpl]; rfl
      have hpl2 : pg.length ≤ 128 := by omega
      have hpl3 : 128 ≤ pg.length := by omega
      have HP := Lib.hid (And.intro hpg (And.intro hlo (And.intro hwd (And.intro hAll hlx)))); clear hpg hlo hwd hAll hlx hev hrd hpl
      go_wp2_with fail
      (with_reducible refine Calls.mono hlay ?_)
      rintro e w1 ⟨v, rfl, hlo1, hb1⟩
      obtain ⟨A1, c1, rfl, hr1⟩ := HP.out.2.1 _ _ hlo1
      clear hlay hlo1 hx0 hx1 hx2 hx3
      obtain ⟨b1, o1, rfl, hlt1, hcc⟩ := hr1.all (by omega)
      have hd1 : w1.cell? ⟨b1, o1 + 1, none⟩ = some (.string ⟨pg.toArray⟩) := hcc 1 (by simp [layCs, layC])
      clear hcc
      have hbx1 := hbx.trans (hb1.mono hbx.size)
      go_wp2_with fail
      go_loopw [9] (fun i wr => ∃ (k : Nat), k ≤ j ∧ i = .int .i64 (k : Nat) ∧ Below w1.heap.size w1 wr) (fun i _ => j - (intOf i).toNat)
      case atStart => exact ⟨0, by omega, rfl, Below.refl _ _⟩
      case round =>
        obtain ⟨k, hk, rfl, hbk⟩ := hrel
        have hdk : wr.cell? ⟨b1, o1 + 1, none⟩ = some (.string ⟨pg.toArray⟩) := (hbk.cell (p := ⟨b1, o1 + 1, none⟩) hlt1).trans hd1
        have hbxk := hbx1.trans (hbk.mono hbx1.size)
        by_cases hkj : k < j
        · have hkl : k < l.length := by rw [HL.out.1]; exact hkj
          obtain ⟨b, off, rfl, hlt, p0, p1, p2, p3, p4⟩ := (ha.below hbxk).ins HL.out.1 hkj
          obtain ⟨y, hy⟩ : ∃ y, l[k] = y := ⟨_, rfl⟩
          rw [hy] at p0 p1 p2 p3 p4
          have hE : Pl.encE y = 0 := by rw [← hy]; exact HP.out.2.2.2.1 _ (by rw [List.take_length]; exact List.getElem_mem hkl)
          obtain ⟨G, hG⟩ : ∃ G, Pl.wordOf y = G := ⟨_, rfl⟩
          have hG32 : G < 4294967296 := by rw [← hG]; exact Pl.word_lt hE
          have hget := fun w => get_any ((pg.drop (4 * k)).take 4) (by have := List.length_take_le 4 (pg.drop (4 * k)); omega) w
          rw [List.take_take, Nat.min_eq_right (by omega), HP.out.2.2.1 k hkl, hy, hG] at hget
          have hdec := fun w => dec_any G w hG32
          have hdv : decV G = .tuple #[insV y, .bool true] := by
            unfold decV; rw [← hG, Pl.dec_ok hE, Pl.dec_enc hE]; rfl
          unfold insV at hdv
          rw [hdv] at hdec
          have HY := Lib.hid (And.intro hget hdec); clear hy hG hE hget hdec hdv
          obtain ⟨op, ra, rb, rc, imm⟩ := y
          simp only at p0 p1 p2 p3 p4 HY
          have e1 : IntKind.u32.wrap (G : Int) = G := by rw [IntKind.wrap_u32]; omega
          have q1 : 4 * (k : Int) ≤ 4 * (k : Int) + 4 := by omega
          have q2 : 4 * (k : Int) + 4 ≤ (pg.length : Int) := by omega
          have q3 : 4 * k + 4 - 4 * k = 4 := by omega
          go_wp2_with fail
          (with_reducible refine (HY.out.1 _).mono ?_)
          rintro e w2 ⟨rfl, rfl⟩
          go_wp2_with fail
          (with_reducible refine (HY.out.2 _).mono ?_)
          rintro e w2 ⟨v, rfl, rfl, hb2⟩
          have p0 := (hb2.cell (p := ⟨b, off + k * 5, none⟩) hlt).trans p0
          have p1 := (hb2.cell (p := ⟨b, off + k * 5 + 1, none⟩) hlt).trans p1
          have p2 := (hb2.cell (p := ⟨b, off + k * 5 + 2, none⟩) hlt).trans p2
          have p3 := (hb2.cell (p := ⟨b, off + k * 5 + 3, none⟩) hlt).trans p3
          have p4 := (hb2.cell (p := ⟨b, off + k * 5 + 4, none⟩) hlt).trans p4
          have hlt2 : b < w2.heap.size := Nat.lt_of_lt_of_le hlt hb2.size
          go_wp2_with fail
          go_quiet (fail)
          go_wp2_with fail
          go_roundw
          case rel => exact ⟨k + 1, by omega, by go_num, below_drewN ((hbk.trans (hb2.mono hbk.size)).alloc (Nat.le_trans hbk.size hb2.size) _) _⟩
          case measure => simp [intOf]; omega
        · go_wp2_with fail
          (with_reducible refine (awake_any _).mono ?_)
          rintro e w2 ⟨v, rfl, rfl, hb2⟩
          go_wp2_with fail
          go_ret
          exact ⟨_, rfl, rfl, hbxk.trans (hb2.mono hbxk.size)⟩
set_option maxRecDepth 100000 in
theorem exeWords_lifted (os : Os) (started : os.Started) (H : Type) (enc : TypeId × Value → H) :
    ReturnsInHanded {} Try.checked os 13 .any (Rows.exeWordsSpec.pre6 enc Try.prog Try.f13 Rows.exeWordsRow.domain false) (Rows.exeWordsSpec.post enc Try.prog Try.f13 false true false false) := by
  refine returnsInHanded_of_change_sized (C := Try.checked) own started (by kernel_rfl) Try.func13
    (ChangeSpec.witness6 (enc := enc) (C := Try.checked) false ⟨#[], #[.slice none 0 0], []⟩ 8 (by kernel_rfl) (by kernel_rfl) (by kernel_rfl) (by kernel_rfl)) ?_
  intro W base args ds gs before hval0 hW hcnd hsz0 _
  have hval : ∀ (j : Nat) t v, Try.f13.params[j]? = some t → args[j]? = some v → Value.okWide Try.prog W .any base t v := hval0
  have hW' := hW
  obtain ⟨p, q, hA0, hV, rfl, hfz, hnd⟩ := hW
  have hA : DataW.TrodAll enc Try.prog W 0 (fun _ => true) true Try.f13.params.toList args.toList ds p := hA0
  have hsz : (DataW.weightsEach Try.prog (Try.f13.params.toList ++ Rows.exeWordsSpec.plain.varTypes Try.prog) (ds ++ gs)).all (· ≤ reachBytes) = true := hsz0
  rw [Try.params13] at hA hval hsz
  obtain ⟨v0, vs0, d0, ds0, p0, q0, hargs, rfl, rfl, h0, r0⟩ := trodAll_cons hA
  obtain ⟨rfl, rfl, rfl⟩ := trodAll_nil r0
  obtain rfl : args = #[v0] := by cases args; simp_all
  obtain ⟨rfl, rfl⟩ := trodVars_none hV
  have k0 := h0
  have lt0 : ∀ x ∈ p0, x.block < W.heap.size := by obtain ⟨m, hm⟩ := k0; exact DataW.trod_lt m _ _ _ hm
  have hz0 : ∀ m ∈ d0.weights Try.prog 57, m ≤ reachBytes := fun m hm => by
    have h1 := List.all_eq_true.1 hsz m (DataW.weights_mem_each (j := 0) rfl rfl m hm)
    simpa using h1
  obtain ⟨A0, n0, c0, l0, rfl, eA0, eB0⟩ := open_inss (hval 0 57 v0 rfl rfl) h0 hz0
  clear hA0 hval0 hsz0
  refine (exeWords_walk A0 n0 c0 l0 W eA0 eB0).mono fun e W' ⟨v, he, hv, bel⟩ => ?_
  subst he hv
  exact ⟨_, rfl, _, _, _, [], _, [], hW', trodAll_mk1 (shut_bool Try.underlying4 _), (trodAll_cons_mk (Below.trod laidOut (by kernel_rfl) (of_decide_eq_true (by kernel_rfl)) k0 bel lt0) trodAll_mk0), rfl, bel.frame _, fun h => by cases h⟩

theorem exeWords_holds : Rows.ExeWordsSaid :=
  OpenClaim.holds_of_wide 13 Try.f13 rfl rfl rfl rfl rfl rfl rfl ⟨rfl, rfl, rfl, rfl, rfl⟩ rfl rfl rfl rfl rfl (by kernel_rfl) Try.func13 (by kernel_rfl)
    (of_decide_eq_true (by kernel_rfl)) (by unfold Func.isWrapper; first | (rw [if_pos (by decide +kernel)]; kernel_rfl) | (rw [if_neg (by decide +kernel)]; exact ⟨rfl, rfl⟩))
    (fun os started H enc _ => exeWords_lifted os started H enc)
#print axioms exeWords_holds
end Go.Proofs.Ytplhmhclcfclhaa
