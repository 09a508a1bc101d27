/- The walk of the document's Bytes of a snapshot. -/
import Derived.Test.YtommlolhpaeioaaDoorMfByW
import Derived.Test.YtommlolhpaeioaaDoorRawW
import Derived.Test.YtommlolhpaeioaaDoorGetW
import Derived.Test.YtommlolhpaeioaaDoorDecR
namespace Go.Proofs.YtommlolhpaeioaaDoor
open Go.RowKit
set_option linter.unusedVariables false
set_option linter.unusedSimpArgs false
attribute [local go_sem] ba_get ba_cut ba_add
/-- A snapshot's cells, and four texts elsewhere. -/
structure Sn14 (w : World) (B : Nat) (s : Pl.Snap) (X : Cx) (b : Nat) (t0 t1 t2 t3 : List UInt8) : Prop where
  c0 : w.cell? ⟨B, 0, none⟩ = some (.string ⟨s.m.toArray⟩)
  c1 : w.cell? ⟨B, 1, none⟩ = some (.int .i64 s.n)
  c2 : w.cell? ⟨B, 2, none⟩ = some (.int .i64 s.at_)
  c3 : w.cell? ⟨B, 3, none⟩ = some (.int .u64 s.clock)
  c4 : w.cell? ⟨B, 4, none⟩ = some (.int .i64 s.pages)
  c5 : w.cell? ⟨B, 5, none⟩ = some (.int .i64 s.blocks)
  c6 : w.cell? ⟨B, 6, none⟩ = some (.slice X.A0 X.n0 X.k0)
  c7 : w.cell? ⟨B, 7, none⟩ = some (.slice X.A1 X.n1 X.k1)
  c8 : w.cell? ⟨B, 8, none⟩ = some (.slice X.A2 X.n2 X.k2)
  d0 : w.cell? ⟨b, 0, none⟩ = some (.string ⟨t0.toArray⟩)
  d1 : w.cell? ⟨b, 1, none⟩ = some (.string ⟨t1.toArray⟩)
  d2 : w.cell? ⟨b, 2, none⟩ = some (.string ⟨t2.toArray⟩)
  d3 : w.cell? ⟨b, 3, none⟩ = some (.string ⟨t3.toArray⟩)
theorem Sn14.below {w w' : World} {B b : Nat} {s : Pl.Snap} {X : Cx} {t0 t1 t2 t3 : List UInt8} (h : Sn14 w B s X b t0 t1 t2 t3) (hB : B < w.heap.size) (hb2 : b < w.heap.size) (hb : Below w.heap.size w w') : Sn14 w' B s X b t0 t1 t2 t3 := by
  have k : ∀ i, w'.cell? ⟨B, i, none⟩ = w.cell? ⟨B, i, none⟩ := fun i => hb.cell (p := ⟨B, i, none⟩) hB
  have q : ∀ i, w'.cell? ⟨b, i, none⟩ = w.cell? ⟨b, i, none⟩ := fun i => hb.cell (p := ⟨b, i, none⟩) hb2
  exact ⟨(k _).trans h.c0, (k _).trans h.c1, (k _).trans h.c2, (k _).trans h.c3, (k _).trans h.c4, (k _).trans h.c5, (k _).trans h.c6, (k _).trans h.c7, (k _).trans h.c8, (q _).trans h.d0, (q _).trans h.d1, (q _).trans h.d2, (q _).trans h.d3⟩
theorem Sn14.drew {w : World} {B b : Nat} {s : Pl.Snap} {X : Cx} {t0 t1 t2 t3 : List UInt8} (h : Sn14 w B s X b t0 t1 t2 t3) : Sn14 w.drew B s X b t0 t1 t2 t3 :=
  ⟨h.c0, h.c1, h.c2, h.c3, h.c4, h.c5, h.c6, h.c7, h.c8, h.d0, h.d1, h.d2, h.d3⟩
theorem slAt_rd {w : World} {k n c : Nat} {A : Option Addr} {xs : List Value} (h : SlAt w k A n c xs) : Rd w k A n xs := h.1
def decs4 (s : Pl.Snap) : List (List UInt8) := [Lib.itoa s.n, Lib.itoa s.at_, Lib.itoa s.pages, Lib.itoa s.blocks]
theorem four {s : Pl.Snap} (h : Pl.ChkOk s) {w : World} {G : Nat} (hg : w.heap[G]? = some (.cells #[.int .i64 s.n, .int .i64 s.at_, .int .i64 s.pages, .int .i64 s.blocks] 2 (0, 0))) {k : Nat} (hk : k < 4) :
    ∃ x : Int, w.cell? ⟨G, k, none⟩ = some (.int .i64 x) ∧ Pl.I64 x ∧ (decs4 s).take (k + 1) = (decs4 s).take k ++ [Lib.itoa x] := by
  have h1 := h.n; have h2 := h.a; have h3 := h.p; have h4 := h.b
  obtain rfl | rfl | rfl | rfl : k = 0 ∨ k = 1 ∨ k = 2 ∨ k = 3 := by omega
  · exact ⟨s.n, by rw [cell_row w G 0 _ _ hg]; rfl, i64_mk (by omega) (by omega), rfl⟩
  · exact ⟨s.at_, by rw [cell_row w G 1 _ _ hg]; rfl, i64_mk (by omega) (by omega), rfl⟩
  · exact ⟨s.pages, by rw [cell_row w G 2 _ _ hg]; rfl, i64_mk (by omega) (by omega), rfl⟩
  · exact ⟨s.blocks, by rw [cell_row w G 3 _ _ hg]; rfl, i64_mk (by omega) (by omega), rfl⟩
theorem ok_hex {d : List UInt8} (h : d.length = 32) : [Pl.hexB d].all Pl.okN = true ∧ Pl.rawB [Pl.hexB d] = d := by
  have e := Pl.hashOf_hex h
  constructor
  · simp [Pl.okN, e]
  · simp [Pl.rawB, Pl.digS, e]
set_option maxRecDepth 100000 in
set_option maxHeartbeats 8000000 in
theorem rmbytes_any (s : Pl.Snap) (X : Cx) (w : World) (hok : SnOk w s X) (hfit : SnFit s) (hclk : 0 ≤ s.clock ∧ s.clock < 18446744073709551616) : Calls Tryd.prog 24 #[.agg (snL s X).toArray] w (RetB (fun v _ => v = bytesV (Pl.mbytes s)) w) := by
  obtain ⟨E, hE⟩ : ∃ E, Pl.mchk s = E := ⟨_, rfl⟩
  obtain ⟨R, hR⟩ : ∃ R, Pl.mbytes s = R := ⟨_, rfl⟩
  rw [hR]
  have hchk := fun W h => rmcheck_any s X W h hfit
  rw [hE] at hchk
  have HR := Lib.hid (And.intro hR hE)
  have HC := Lib.hid hchk
  have HF := Lib.hid (And.intro hfit hclk)
  have HI := Lib.hid (info_sn hok)
  have HOK := Lib.hid hok
  clear hR hchk hfit hE
  obtain ⟨LS, hLS⟩ : ∃ L, snL s X = L := ⟨_, rfl⟩
  rw [hLS]
  have HLS := Lib.hid hLS
  go_enter Tryd.func24, Tryd.ntmps24
  go_upto_region 1 with (fail)
  generalize hV : w.alloc _ = V
  have hx : SnAt V w.heap.size 0 s X := by rw [← hV, ← hLS]; exact snAt_new w s X
  have hbV : Below w.heap.size w V := by rw [← hV]; exact (Below.refl _ _).alloc (Nat.le_refl _) _
  have hBV : w.heap.size < V.heap.size := by rw [← hV]; simp
  replace hok := hok.below hbV
  have hr0 := snAt_range hx
  rw [hLS] at hr0
  have hinf := HI.out
  rw [hLS] at hinf
  clear hV hLS
  go_wp2_with (with_reducible refine wpList_load_mid rfl 28 _ rfl w.heap.size 0 rfl LS _ hr0 Tryd.underlying28 rfl hinf ?_)
  rw [← HLS.out]
  (with_reducible refine (HC.out _ hok).mono ?_)
  rintro e w1 ⟨v, rfl, rfl, hb1⟩
  rw [HLS.out]
  have hb1' : Below w.heap.size w w1 := hbV.trans (hb1.mono hbV.size)
  replace hx := hx.below hBV hb1
  replace hBV : w.heap.size < w1.heap.size := Nat.lt_of_lt_of_le hBV hb1.size
  clear hr0 hinf hb1 hbV hok
  by_cases hE0 : E ≠ 0
  · have hRE : R = ([], E) := by rw [← HR.out.1, ← HR.out.2]; exact Pl.mbytes_no (by rw [HR.out.2]; exact hE0)
    have HRE := Lib.hid hRE; clear hRE
    have hne : ((E : Int) == 0) = false := by rw [beq_eq_false_iff_ne]; omega
    go_wp2_with fail
    go_ret2
    exact ⟨_, rfl, by rw [HRE.out]; rfl, hb1'⟩
  · obtain rfl : E = 0 := by omega
    clear hE0
    have hko := Pl.chkOk_of HR.out.2
    have hRE : R = (Pl.rowB (Pl.sheet s), 0) := by rw [← HR.out.1]; exact Pl.mbytes_ok HR.out.2
    have hsl : s.sum.length = 32 := HOK.out.sum
    have hsh := Pl.sheet_short hko hsl
    have HK := Lib.hid (And.intro hko (And.intro hRE hsh)); clear hRE hsh hko
    have hS := sn9_of hx
    obtain ⟨sm, hsm⟩ : ∃ sm, s.sum = sm := ⟨_, rfl⟩
    have hrs : w1.rangeAt w.heap.size 9 (byC sm) := by rw [← hsm]; exact hS.sum
    rw [hsm] at hsl
    have HSM := Lib.hid (And.intro hsm hsl)
    have hhx := fun W => rhex_any sm W hsl
    obtain ⟨DS, hDS⟩ : ∃ D, byC sm = D := ⟨_, rfl⟩
    have hinD : (Tryd.prog.info? 26).map (·.size) = some DS.length := by rw [← hDS]; exact info_byl hsl
    rw [hDS] at hrs hhx
    have HHX := Lib.hid hhx
    have HS := Lib.hid hS
    clear hhx hDS hsm hsl hx hS
    go_wp2_with (with_reducible refine wpList_load_mid rfl 26 _ rfl w.heap.size 9 rfl DS _ hrs Tryd.underlying26 rfl hinD ?_)
    clear hrs hinD
    (with_reducible refine (HHX.out _).mono ?_)
    rintro e w2 ⟨v, rfl, rfl, hb2⟩
    obtain ⟨hh1, hh2⟩ := ok_hex HSM.out.2
    have hhl : (Pl.hexB sm).length = 64 := by rw [Pl.hexB_len, HSM.out.2]
    obtain ⟨hx, hhxe⟩ : ∃ h, Pl.hexB sm = h := ⟨_, rfl⟩
    rw [hhxe] at hh1 hh2 hhl
    rw [hhxe]
    have hraw := fun W h => raw_any (some ⟨w2.heap.size, 0, none⟩) 1 1 [hx] W h hh1 (by omega) (by intro t ht; simp at ht; subst ht; omega)
    rw [hh2] at hraw
    have HRW := Lib.hid hraw; clear hraw hh1 hh2 hhl hhxe
    go_wp2_with fail
    (with_reducible refine (HRW.out _ (Rd.new w2 [.string ⟨hx.toArray⟩] _)).mono ?_)
    rintro e w3 ⟨v, rfl, rfl, hb3⟩
    have hb23 : Below w2.heap.size w2 w3 := ((Below.refl _ _).alloc (Nat.le_refl _) _).trans (hb3.mono (by simp))
    have hb13 : Below w1.heap.size w1 w3 := hb2.trans (hb23.mono hb2.size)
    have hd3 : Below w.heap.size w w3 := hb1'.trans (hb13.mono hb1'.size)
    have hS3 := HS.out.below hBV hb13
    have hB3 : w.heap.size < w3.heap.size := Nat.lt_of_lt_of_le hBV hb13.size
    clear hb1' hb2 hb3 hb23 hb13 hBV HS
    go_upto_region 6 with (fail)
    have hown := World.ownsRow_made (base := w.heap.size + 1) (e := 9) (size := 1) w3 #[] 0 (by omega) (by decide) (by simp)
    generalize hW : w3.alloc _ = W
    rw [hW] at hown
    have hb4 : Below w3.heap.size w3 W := by rw [← hW]; exact (Below.refl _ _).alloc (Nat.le_refl _) _
    have hd4 : Below w.heap.size w W := hd3.trans (hb4.mono hd3.size)
    have hS4 := hS3.below hB3 hb4
    have hB4 : w.heap.size < W.heap.size := Nat.lt_of_lt_of_le hB3 hb4.size
    clear hW hb4 hd3 hS3 hB3
    have HS4 := Lib.hid hS4
    obtain ⟨c0, c1, c2, c3, c4, c5, c6, c7, c8, -⟩ := hS4
    go_wp2_with fail
    clear c0 c1 c2 c3 c4 c5 c6 c7 c8
    generalize hW2 : W.alloc _ = W2
    have hG : W2.heap[W.heap.size]? = some (.cells #[.int .i64 s.n, .int .i64 s.at_, .int .i64 s.pages, .int .i64 s.blocks] 2 (0, 0)) := by rw [← hW2]; exact heap_alloc_new W _
    have hb5 : Below W.heap.size W W2 := by rw [← hW2]; exact (Below.refl _ _).alloc (Nat.le_refl _) _
    have hown2 := own_below hown hb5
    have hne0 : w3.heap.size ≠ W.heap.size := by have := (hown.lt w3.heap.size rfl).2; omega
    clear hW2 hown
    obtain ⟨G, hGG⟩ : ∃ G, W.heap.size = G := ⟨_, rfl⟩
    have hdG : Below w.heap.size w W2 := hd4.trans (hb5.mono hd4.size)
    have HSG := Lib.hid (HS4.out.below hB4 hb5)
    have hBG : w.heap.size < W2.heap.size := Nat.lt_of_lt_of_le hB4 hb5.size
    rw [hGG] at hG hne0 hB4 ⊢
    clear hGG hb5 hd4 HS4
    have HST := Lib.hid info_str
    go_loopw [6, 30] (fun v i wr => ∃ (k g c : Nat), k ≤ 4 ∧ i = .int .i64 (k : Nat) ∧ v = .slice (some ⟨g, 0, none⟩) k c ∧ wr.ownsRow (w.heap.size + 1) 9 1 (.slice (some ⟨g, 0, none⟩) k c) k (strs ((decs4 s).take k)) ∧ Below (w.heap.size + 1) W2 wr ∧ g ≠ G ∧ wr.heap[G]? = some (.cells #[.int .i64 s.n, .int .i64 s.at_, .int .i64 s.pages, .int .i64 s.blocks] 2 (0, 0))) (fun _ i _ => 4 - (intOf i).toNat)
    case atStart => exact ⟨0, _, 0, by omega, rfl, rfl, hown2, Below.refl _ _, hne0, hG⟩
    case round =>
      clear hown2 hne0 hG
      obtain ⟨k, g, c, hk, rfl, rfl, hown, hbV, hne, hG⟩ := hrel
      have hsz : w.heap.size + 1 ≤ wr.heap.size := Nat.le_trans hBG hbV.size
      by_cases hk4 : k < 4
      · obtain ⟨x, hc1, hI, hst⟩ := four HK.out.1 hG hk4
        have hdx := rdec_any x
        have hrd := fun W => hdx W hI
        obtain ⟨t, ht⟩ : ∃ t, Lib.itoa x = t := ⟨_, rfl⟩
        rw [ht] at hrd hst
        have HH := Lib.hid (And.intro hrd hst); clear hrd hst hdx hI ht
        have hj1 : (k : Int) < 4 := by omega
        go_wp2_with fail
        (with_reducible refine (HH.out.1 _).mono ?_)
        rintro e v1 ⟨v, rfl, rfl, hb1⟩
        have hown1 := own_below hown hb1
        have hsv : w.heap.size + 1 ≤ v1.heap.size := Nat.le_trans hsz hb1.size
        have hGl : G < wr.heap.size := blk_lt hG
        have hG1 : v1.heap[G]? = _ := (hb1.block G hGl).trans hG
        go_wp2_with (at_builtin; refine push_one_g rfl (.tmp 34) (.tmp 37) 23 rfl (w.heap.size + 1) 9 (.string ⟨#[]⟩) 16 Tryd.underlying23 HST.out rfl _ _ _ _ _ rfl hown1 rfl rfl (by omega) (by omega) hsv ?_; intro g3 c3 v2 hown2 hb2 hkp)
        obtain ⟨k1, k2⟩ := hkp G (Nat.lt_of_lt_of_le hGl hb1.size) (by intro h; injection h with h; exact hne h)
        go_roundw
        case rel =>
          have e1 : strs ((decs4 s).take k) ++ [.string ⟨t.toArray⟩] = strs ((decs4 s).take (k + 1)) := by rw [HH.out.2, strs_snoc]
          rw [e1] at hown2
          exact ⟨k + 1, g3, c3, by omega, by go_num, rfl, hown2, (hbV.trans (hb1.mono hsz)).trans hb2, k2, k1.trans hG1⟩
        case measure => simp [intOf]; omega
      · obtain rfl : k = 4 := by omega
        go_wp2_with fail
        have hS9 := HSG.out.keep (by omega) hbV
        have hgl : g < wr.heap.size := (hown.lt g rfl).2
        have hcs : ∀ j, j < 4 → wr.cell? ⟨g, j, none⟩ = (strs (decs4 s))[j]? := by
          obtain ⟨b, off, he, _, hc⟩ := (Rd.own hown).all (by omega)
          injection he with he
          injection he with he1 he2
          subst he1 he2
          intro j hj
          have := hc j (by rw [strs_len]; simp [decs4]; omega)
          rw [Nat.zero_add] at this
          exact this
        have hS : Sn14 wr w.heap.size s X g (Lib.itoa s.n) (Lib.itoa s.at_) (Lib.itoa s.pages) (Lib.itoa s.blocks) :=
          ⟨hS9.c0, hS9.c1, hS9.c2, hS9.c3, hS9.c4, hS9.c5, hS9.c6, hS9.c7, hS9.c8, hcs 0 (by omega), hcs 1 (by omega), hcs 2 (by omega), hcs 3 (by omega)⟩
        have hput : ∀ W, Calls Tryd.prog 51 #[.int .u64 s.clock, .int .i64 8] W (RetB (fun v _ => v = .string ⟨(Pl.putB s.clock.toNat 8).toArray⟩) W) := by
          intro W
          obtain ⟨cn, hcn⟩ := Int.eq_ofNat_of_zero_le HF.out.2.1
          have := rput_any cn (by have := HF.out.2.2; omega) 8 W
          rw [hcn]
          exact this
        have hr0 := fun W h hn => raw_any X.A0 X.n0 X.k0 s.c0 W h HK.out.1.c0 hn HF.out.1.c0
        have hr1 := fun W h hn => raw_any X.A1 X.n1 X.k1 s.c1 W h HK.out.1.c1 hn HF.out.1.c1
        have hr2 := fun W h hn => raw_any X.A2 X.n2 X.k2 s.c2 W h HK.out.1.c2 hn HF.out.1.c2
        have hnn : X.n0 ≤ 1000 ∧ X.n1 ≤ 1000 ∧ X.n2 ≤ 1000 := by
          have h0 := (show Rd w 1 X.A0 X.n0 (strs s.c0) from HOK.out.s0.1).len1
          have h1 := (show Rd w 1 X.A1 X.n1 (strs s.c1) from HOK.out.s1.1).len1
          have h2 := (show Rd w 1 X.A2 X.n2 (strs s.c2) from HOK.out.s2.1).len1
          rw [strs_len] at h0 h1 h2
          have := HK.out.1.l
          omega
        have HCL := Lib.hid (And.intro hput (And.intro hr0 (And.intro hr1 (And.intro hr2 hnn))))
        clear hput hr0 hr1 hr2 hnn hcs hS9 hG hown
        have hdr : Below w.heap.size w wr := hdG.trans (hbV.mono (by omega))
        clear hdG hbV hne HSG hBG hB4
        refine wp_region_held_drew (S := (fun w' => Sn14 w' w.heap.size s X g (Lib.itoa s.n) (Lib.itoa s.at_) (Lib.itoa s.pages) (Lib.itoa s.blocks))) (by kernel_rfl) (by exact hS.drew) (fun hHeld => ?_)
        refine wpAnyH_take (i := 0) (v := ?_) rfl (by kernel_rfl) (by kernel_rfl) (by kernel_rfl) (fun _ _ _ h => h) (Or.inl ⟨by kernel_rfl, ?_⟩) hHeld ?_
        rotate_left
        · (intro w' hSw; obtain ⟨hS0, hS1, hS2, hS3, hS4, hS5, hS6, hS7, hS8, hS9, hS10, hS11, hS12⟩ := hSw; go_simp; try with_reducible rfl)
        simp only [Act.put, List.setIfInBounds_toArray, List.set_cons_zero, List.set_cons_succ, List.getElem_toArray, List.getElem_cons_succ, List.getElem_cons_zero]
        refine wpAnyH_take (i := 1) (v := ?_) rfl (by kernel_rfl) (by kernel_rfl) (by kernel_rfl) (fun _ _ _ h => h) (Or.inl ⟨by kernel_rfl, ?_⟩) hHeld ?_
        rotate_left
        · (intro w' hSw; obtain ⟨hS0, hS1, hS2, hS3, hS4, hS5, hS6, hS7, hS8, hS9, hS10, hS11, hS12⟩ := hSw; go_simp; try with_reducible rfl)
        simp only [Act.put, List.setIfInBounds_toArray, List.set_cons_zero, List.set_cons_succ, List.getElem_toArray, List.getElem_cons_succ, List.getElem_cons_zero]
        refine wpAnyH_take (i := 2) (v := ?_) rfl (by kernel_rfl) (by kernel_rfl) (by kernel_rfl) (fun _ _ _ h => h) (Or.inl ⟨by kernel_rfl, ?_⟩) hHeld ?_
        rotate_left
        · (intro w' hSw; obtain ⟨hS0, hS1, hS2, hS3, hS4, hS5, hS6, hS7, hS8, hS9, hS10, hS11, hS12⟩ := hSw; go_simp; try with_reducible rfl)
        simp only [Act.put, List.setIfInBounds_toArray, List.set_cons_zero, List.set_cons_succ, List.getElem_toArray, List.getElem_cons_succ, List.getElem_cons_zero]
        refine wpAnyH_take (i := 3) (v := ?_) rfl (by kernel_rfl) (by kernel_rfl) (by kernel_rfl) (fun _ _ _ h => h) (Or.inl ⟨by kernel_rfl, ?_⟩) hHeld ?_
        rotate_left
        · (intro w' hSw; obtain ⟨hS0, hS1, hS2, hS3, hS4, hS5, hS6, hS7, hS8, hS9, hS10, hS11, hS12⟩ := hSw; go_simp; try with_reducible rfl)
        simp only [Act.put, List.setIfInBounds_toArray, List.set_cons_zero, List.set_cons_succ, List.getElem_toArray, List.getElem_cons_succ, List.getElem_cons_zero]
        refine wpAnyH_take (i := 4) (v := ?_) rfl (by kernel_rfl) (by kernel_rfl) (by kernel_rfl) (fun _ _ _ h => h) (Or.inl ⟨by kernel_rfl, ?_⟩) hHeld ?_
        rotate_left
        · (intro w' hSw; obtain ⟨hS0, hS1, hS2, hS3, hS4, hS5, hS6, hS7, hS8, hS9, hS10, hS11, hS12⟩ := hSw; go_simp; try with_reducible rfl)
        simp only [Act.put, List.setIfInBounds_toArray, List.set_cons_zero, List.set_cons_succ, List.getElem_toArray, List.getElem_cons_succ, List.getElem_cons_zero]
        refine wpAnyH_take (i := 5) (v := ?_) rfl (by kernel_rfl) (by kernel_rfl) (by kernel_rfl) (fun _ _ _ h => h) (Or.inl ⟨by kernel_rfl, ?_⟩) hHeld ?_
        rotate_left
        · (intro w' hSw; obtain ⟨hS0, hS1, hS2, hS3, hS4, hS5, hS6, hS7, hS8, hS9, hS10, hS11, hS12⟩ := hSw; go_simp; try with_reducible rfl)
        simp only [Act.put, List.setIfInBounds_toArray, List.set_cons_zero, List.set_cons_succ, List.getElem_toArray, List.getElem_cons_succ, List.getElem_cons_zero]
        refine wpAnyH_take (i := 6) (v := ?_) rfl (by kernel_rfl) (by kernel_rfl) (by kernel_rfl) (fun _ _ _ h => h) (Or.inl ⟨by kernel_rfl, ?_⟩) hHeld ?_
        rotate_left
        · (intro w' hSw; obtain ⟨hS0, hS1, hS2, hS3, hS4, hS5, hS6, hS7, hS8, hS9, hS10, hS11, hS12⟩ := hSw; go_simp; try with_reducible rfl)
        simp only [Act.put, List.setIfInBounds_toArray, List.set_cons_zero, List.set_cons_succ, List.getElem_toArray, List.getElem_cons_succ, List.getElem_cons_zero]
        refine wpAnyH_take (i := 7) (v := ?_) rfl (by kernel_rfl) (by kernel_rfl) (by kernel_rfl) (fun _ _ _ h => h) (Or.inl ⟨by kernel_rfl, ?_⟩) hHeld ?_
        rotate_left
        · (intro w' hSw; obtain ⟨hS0, hS1, hS2, hS3, hS4, hS5, hS6, hS7, hS8, hS9, hS10, hS11, hS12⟩ := hSw; go_simp; try with_reducible rfl)
        simp only [Act.put, List.setIfInBounds_toArray, List.set_cons_zero, List.set_cons_succ, List.getElem_toArray, List.getElem_cons_succ, List.getElem_cons_zero]
        refine wpAnyH_take (i := 8) (v := ?_) rfl (by kernel_rfl) (by kernel_rfl) (by kernel_rfl) (fun _ _ _ h => h) (Or.inl ⟨by kernel_rfl, ?_⟩) hHeld ?_
        rotate_left
        · (intro w' hSw; obtain ⟨hS0, hS1, hS2, hS3, hS4, hS5, hS6, hS7, hS8, hS9, hS10, hS11, hS12⟩ := hSw; go_simp; try with_reducible rfl)
        simp only [Act.put, List.setIfInBounds_toArray, List.set_cons_zero, List.set_cons_succ, List.getElem_toArray, List.getElem_cons_succ, List.getElem_cons_zero]
        refine wpAnyH_take (i := 9) (v := ?_) rfl (by kernel_rfl) (by kernel_rfl) (by kernel_rfl) (fun _ _ _ h => h) (Or.inl ⟨by kernel_rfl, ?_⟩) hHeld ?_
        rotate_left
        · (intro w' hSw; obtain ⟨hS0, hS1, hS2, hS3, hS4, hS5, hS6, hS7, hS8, hS9, hS10, hS11, hS12⟩ := hSw; go_simp; try with_reducible rfl)
        simp only [Act.put, List.setIfInBounds_toArray, List.set_cons_zero, List.set_cons_succ, List.getElem_toArray, List.getElem_cons_succ, List.getElem_cons_zero]
        refine wpAnyH_take (i := 11) (v := ?_) rfl (by kernel_rfl) (by kernel_rfl) (by kernel_rfl) (fun _ _ _ h => h) (Or.inl ⟨by kernel_rfl, ?_⟩) hHeld ?_
        rotate_left
        · (intro w' hSw; obtain ⟨hS0, hS1, hS2, hS3, hS4, hS5, hS6, hS7, hS8, hS9, hS10, hS11, hS12⟩ := hSw; go_simp; try with_reducible rfl)
        simp only [Act.put, List.setIfInBounds_toArray, List.set_cons_zero, List.set_cons_succ, List.getElem_toArray, List.getElem_cons_succ, List.getElem_cons_zero]
        refine wpAnyH_take (i := 12) (v := ?_) rfl (by kernel_rfl) (by kernel_rfl) (by kernel_rfl) (fun _ _ _ h => h) (Or.inl ⟨by kernel_rfl, ?_⟩) hHeld ?_
        rotate_left
        · (intro w' hSw; obtain ⟨hS0, hS1, hS2, hS3, hS4, hS5, hS6, hS7, hS8, hS9, hS10, hS11, hS12⟩ := hSw; go_simp; try with_reducible rfl)
        simp only [Act.put, List.setIfInBounds_toArray, List.set_cons_zero, List.set_cons_succ, List.getElem_toArray, List.getElem_cons_succ, List.getElem_cons_zero]
        refine wpAnyH_take (i := 13) (v := ?_) rfl (by kernel_rfl) (by kernel_rfl) (by kernel_rfl) (fun _ _ _ h => h) (Or.inl ⟨by kernel_rfl, ?_⟩) hHeld ?_
        rotate_left
        · (intro w' hSw; obtain ⟨hS0, hS1, hS2, hS3, hS4, hS5, hS6, hS7, hS8, hS9, hS10, hS11, hS12⟩ := hSw; go_simp; try with_reducible rfl)
        simp only [Act.put, List.setIfInBounds_toArray, List.set_cons_zero, List.set_cons_succ, List.getElem_toArray, List.getElem_cons_succ, List.getElem_cons_zero]
        refine wpAnyH_take (i := 14) (v := ?_) rfl (by kernel_rfl) (by kernel_rfl) (by kernel_rfl) (fun _ _ _ h => h) (Or.inl ⟨by kernel_rfl, ?_⟩) hHeld ?_
        rotate_left
        · (intro w' hSw; obtain ⟨hS0, hS1, hS2, hS3, hS4, hS5, hS6, hS7, hS8, hS9, hS10, hS11, hS12⟩ := hSw; go_simp; try with_reducible rfl)
        simp only [Act.put, List.setIfInBounds_toArray, List.set_cons_zero, List.set_cons_succ, List.getElem_toArray, List.getElem_cons_succ, List.getElem_cons_zero]
        refine wpAnyH_take (i := 15) (v := ?_) rfl (by kernel_rfl) (by kernel_rfl) (by kernel_rfl) (fun _ _ _ h => h) (Or.inl ⟨by kernel_rfl, ?_⟩) hHeld ?_
        rotate_left
        · (intro w' hSw; obtain ⟨hS0, hS1, hS2, hS3, hS4, hS5, hS6, hS7, hS8, hS9, hS10, hS11, hS12⟩ := hSw; go_simp; try with_reducible rfl)
        simp only [Act.put, List.setIfInBounds_toArray, List.set_cons_zero, List.set_cons_succ, List.getElem_toArray, List.getElem_cons_succ, List.getElem_cons_zero]
        refine wpAnyH_take (i := 16) (v := ?_) rfl (by kernel_rfl) (by kernel_rfl) (by kernel_rfl) (fun _ _ _ h => h) (Or.inl ⟨by kernel_rfl, ?_⟩) hHeld ?_
        rotate_left
        · (intro w' hSw; obtain ⟨hS0, hS1, hS2, hS3, hS4, hS5, hS6, hS7, hS8, hS9, hS10, hS11, hS12⟩ := hSw; go_simp; try with_reducible rfl)
        simp only [Act.put, List.setIfInBounds_toArray, List.set_cons_zero, List.set_cons_succ, List.getElem_toArray, List.getElem_cons_succ, List.getElem_cons_zero]
        refine wpAnyH_take (i := 17) (v := ?_) rfl (by kernel_rfl) (by kernel_rfl) (by kernel_rfl) (fun _ _ _ h => h) (Or.inl ⟨by kernel_rfl, ?_⟩) hHeld ?_
        rotate_left
        · (intro w' hSw; obtain ⟨hS0, hS1, hS2, hS3, hS4, hS5, hS6, hS7, hS8, hS9, hS10, hS11, hS12⟩ := hSw; go_simp; try with_reducible rfl)
        simp only [Act.put, List.setIfInBounds_toArray, List.set_cons_zero, List.set_cons_succ, List.getElem_toArray, List.getElem_cons_succ, List.getElem_cons_zero]
        refine wpAnyH_take (i := 18) (v := ?_) rfl (by kernel_rfl) (by kernel_rfl) (by kernel_rfl) (fun _ _ _ h => h) (Or.inl ⟨by kernel_rfl, ?_⟩) hHeld ?_
        rotate_left
        · (intro w' hSw; obtain ⟨hS0, hS1, hS2, hS3, hS4, hS5, hS6, hS7, hS8, hS9, hS10, hS11, hS12⟩ := hSw; go_simp; try with_reducible rfl)
        simp only [Act.put, List.setIfInBounds_toArray, List.set_cons_zero, List.set_cons_succ, List.getElem_toArray, List.getElem_cons_succ, List.getElem_cons_zero]
        refine wpAnyH_take (i := 19) (v := ?_) rfl (by kernel_rfl) (by kernel_rfl) (by kernel_rfl) (fun _ _ _ h => h) (Or.inl ⟨by kernel_rfl, ?_⟩) hHeld ?_
        rotate_left
        · (intro w' hSw; obtain ⟨hS0, hS1, hS2, hS3, hS4, hS5, hS6, hS7, hS8, hS9, hS10, hS11, hS12⟩ := hSw; go_simp; try with_reducible rfl)
        simp only [Act.put, List.setIfInBounds_toArray, List.set_cons_zero, List.set_cons_succ, List.getElem_toArray, List.getElem_cons_succ, List.getElem_cons_zero]
        refine wpAnyH_take (i := 21) (v := ?_) rfl (by kernel_rfl) (by kernel_rfl) (by kernel_rfl) (fun _ _ _ h => h) (Or.inl ⟨by kernel_rfl, ?_⟩) hHeld ?_
        rotate_left
        · (intro w' hSw; obtain ⟨hS0, hS1, hS2, hS3, hS4, hS5, hS6, hS7, hS8, hS9, hS10, hS11, hS12⟩ := hSw; go_simp; try with_reducible rfl)
        simp only [Act.put, List.setIfInBounds_toArray, List.set_cons_zero, List.set_cons_succ, List.getElem_toArray, List.getElem_cons_succ, List.getElem_cons_zero]
        refine wpAnyH_take (i := 22) (v := ?_) rfl (by kernel_rfl) (by kernel_rfl) (by kernel_rfl) (fun _ _ _ h => h) (Or.inl ⟨by kernel_rfl, ?_⟩) hHeld ?_
        rotate_left
        · (intro w' hSw; obtain ⟨hS0, hS1, hS2, hS3, hS4, hS5, hS6, hS7, hS8, hS9, hS10, hS11, hS12⟩ := hSw; go_simp; try with_reducible rfl)
        simp only [Act.put, List.setIfInBounds_toArray, List.set_cons_zero, List.set_cons_succ, List.getElem_toArray, List.getElem_cons_succ, List.getElem_cons_zero]
        refine wpAnyH_take (i := 23) (v := ?_) rfl (by kernel_rfl) (by kernel_rfl) (by kernel_rfl) (fun _ _ _ h => h) (Or.inl ⟨by kernel_rfl, ?_⟩) hHeld ?_
        rotate_left
        · (intro w' hSw; obtain ⟨hS0, hS1, hS2, hS3, hS4, hS5, hS6, hS7, hS8, hS9, hS10, hS11, hS12⟩ := hSw; go_simp; try with_reducible rfl)
        simp only [Act.put, List.setIfInBounds_toArray, List.set_cons_zero, List.set_cons_succ, List.getElem_toArray, List.getElem_cons_succ, List.getElem_cons_zero]
        refine wpAnyH_take (i := 25) (v := ?_) rfl (by kernel_rfl) (by kernel_rfl) (by kernel_rfl) (fun _ _ _ h => h) (Or.inl ⟨by kernel_rfl, ?_⟩) hHeld ?_
        rotate_left
        · (intro w' hSw; obtain ⟨hS0, hS1, hS2, hS3, hS4, hS5, hS6, hS7, hS8, hS9, hS10, hS11, hS12⟩ := hSw; go_simp; try with_reducible rfl)
        simp only [Act.put, List.setIfInBounds_toArray, List.set_cons_zero, List.set_cons_succ, List.getElem_toArray, List.getElem_cons_succ, List.getElem_cons_zero]
        refine wpAnyH_take (i := 26) (v := ?_) rfl (by kernel_rfl) (by kernel_rfl) (by kernel_rfl) (fun _ _ _ h => h) (Or.inl ⟨by kernel_rfl, ?_⟩) hHeld ?_
        rotate_left
        · (intro w' hSw; obtain ⟨hS0, hS1, hS2, hS3, hS4, hS5, hS6, hS7, hS8, hS9, hS10, hS11, hS12⟩ := hSw; go_simp; try with_reducible rfl)
        simp only [Act.put, List.setIfInBounds_toArray, List.set_cons_zero, List.set_cons_succ, List.getElem_toArray, List.getElem_cons_succ, List.getElem_cons_zero]
        refine wpAnyH_take (i := 27) (v := ?_) rfl (by kernel_rfl) (by kernel_rfl) (by kernel_rfl) (fun _ _ _ h => h) (Or.inl ⟨by kernel_rfl, ?_⟩) hHeld ?_
        rotate_left
        · (intro w' hSw; obtain ⟨hS0, hS1, hS2, hS3, hS4, hS5, hS6, hS7, hS8, hS9, hS10, hS11, hS12⟩ := hSw; go_simp; try with_reducible rfl)
        simp only [Act.put, List.setIfInBounds_toArray, List.set_cons_zero, List.set_cons_succ, List.getElem_toArray, List.getElem_cons_succ, List.getElem_cons_zero]
        refine wpAnyH_take (i := 29) (v := ?_) rfl (by kernel_rfl) (by kernel_rfl) (by kernel_rfl) (fun _ _ _ h => h) (Or.inl ⟨by kernel_rfl, ?_⟩) hHeld ?_
        rotate_left
        · (intro w' hSw; obtain ⟨hS0, hS1, hS2, hS3, hS4, hS5, hS6, hS7, hS8, hS9, hS10, hS11, hS12⟩ := hSw; go_simp; try with_reducible rfl)
        simp only [Act.put, List.setIfInBounds_toArray, List.set_cons_zero, List.set_cons_succ, List.getElem_toArray, List.getElem_cons_succ, List.getElem_cons_zero]
        refine wpAnyH_ready (rs := [10]) (by kernel_rfl) (by simp) (AllReadyH.cons rfl (fun K hK => ?_) AllReadyH.nil)
        go_simp
        (with_reducible refine (HCL.out.1 _).mono ?_)
        rintro e x1 ⟨v, rfl, rfl, hb1⟩
        have hd1 : Below w.heap.size w x1 := hdr.drew.trans (hb1.mono (by simp; omega))
        have hS1 := hS.drew.below (by simp; omega) (by simpa using hgl) hb1
        have hz1 : wr.heap.size ≤ x1.heap.size := by have := hb1.size; simpa using this
        refine hK.out _ _ hS1 (fun hHeld => ?_)
        clear hK K
        (try simp only [Act.put, List.setIfInBounds_toArray, List.set_cons_zero, List.set_cons_succ, List.getElem_toArray, List.getElem_cons_succ, List.getElem_cons_zero])
        refine wpAnyH_ready (rs := [20]) (by kernel_rfl) (by simp) (AllReadyH.cons rfl (fun K hK => ?_) AllReadyH.nil)
        go_simp
        (with_reducible refine (HCL.out.2.1 _ (slAt_rd (HOK.out.s0.below hd1)) HCL.out.2.2.2.2.1).mono ?_)
        rintro e x2 ⟨v, rfl, rfl, hb2⟩
        have hd2 : Below w.heap.size w x2 := hd1.trans (hb2.mono hd1.size)
        have hS2 := hS1.below (by omega) (by omega) hb2
        have hz2 : wr.heap.size ≤ x2.heap.size := Nat.le_trans hz1 hb2.size
        refine hK.out _ _ hS2 (fun hHeld => ?_)
        clear hK K
        (try simp only [Act.put, List.setIfInBounds_toArray, List.set_cons_zero, List.set_cons_succ, List.getElem_toArray, List.getElem_cons_succ, List.getElem_cons_zero])
        refine wpAnyH_ready (rs := [24]) (by kernel_rfl) (by simp) (AllReadyH.cons rfl (fun K hK => ?_) AllReadyH.nil)
        go_simp
        (with_reducible refine (HCL.out.2.2.1 _ (slAt_rd (HOK.out.s1.below hd2)) HCL.out.2.2.2.2.2.1).mono ?_)
        rintro e x3 ⟨v, rfl, rfl, hb3⟩
        have hd3 : Below w.heap.size w x3 := hd2.trans (hb3.mono hd2.size)
        have hS3 := hS2.below (by omega) (by omega) hb3
        have hz3 : wr.heap.size ≤ x3.heap.size := Nat.le_trans hz2 hb3.size
        refine hK.out _ _ hS3 (fun hHeld => ?_)
        clear hK K
        (try simp only [Act.put, List.setIfInBounds_toArray, List.set_cons_zero, List.set_cons_succ, List.getElem_toArray, List.getElem_cons_succ, List.getElem_cons_zero])
        refine wpAnyH_ready (rs := [28]) (by kernel_rfl) (by simp) (AllReadyH.cons rfl (fun K hK => ?_) AllReadyH.nil)
        go_simp
        (with_reducible refine (HCL.out.2.2.2.1 _ (slAt_rd (HOK.out.s2.below hd3)) HCL.out.2.2.2.2.2.2).mono ?_)
        rintro e x4 ⟨v, rfl, rfl, hb4⟩
        have hd4 : Below w.heap.size w x4 := hd3.trans (hb4.mono hd3.size)
        have hS4 := hS3.below (by omega) (by omega) hb4
        have hz4 : wr.heap.size ≤ x4.heap.size := Nat.le_trans hz3 hb4.size
        refine hK.out _ _ hS4 (fun hHeld => ?_)
        clear hK K
        (try simp only [Act.put, List.setIfInBounds_toArray, List.set_cons_zero, List.set_cons_succ, List.getElem_toArray, List.getElem_cons_succ, List.getElem_cons_zero])
        have hla : (x4.alloc (.cells (strs (Pl.sheet s)).toArray 9)).heap.size = x4.heap.size + 1 := by simp
        have hS5 : Sn14 (x4.alloc (.cells (strs (Pl.sheet s)).toArray 9)) w.heap.size s X g (Lib.itoa s.n) (Lib.itoa s.at_) (Lib.itoa s.pages) (Lib.itoa s.blocks) := hS4.below (by omega) (by omega) ((Below.refl _ _).alloc (Nat.le_refl _) _)
        have hd5 : Below w.heap.size w (x4.alloc (.cells (strs (Pl.sheet s)).toArray 9)) := hd4.alloc hd4.size _
        have hrr : Rd (x4.alloc (.cells (strs (Pl.sheet s)).toArray 9)) 1 (some ⟨x4.heap.size, 0, none⟩) 11 (strs (Pl.sheet s)) := Rd.new x4 (strs (Pl.sheet s)) 9
        have hrow := rrow_any (some ⟨x4.heap.size, 0, none⟩) 11 11 (Pl.sheet s) _ hrr (by omega) (by
          have h1 := sumLen_bound (Pl.sheet s) 32000 HK.out.2.2
          have h2 := rowB_le (Pl.sheet s)
          simp only [show (Pl.sheet s).length = 11 from rfl] at h1
          omega)
        obtain ⟨X5, hX5⟩ : ∃ X5, x4.alloc (.cells (strs (Pl.sheet s)).toArray 9) = X5 := ⟨_, rfl⟩
        rw [hX5] at hS5 hd5 hrow hla
        have HRR := Lib.hid hrow
        have hsme := HSM.out.1
        replace hX5 : x4.alloc (.cells #[.string ⟨#[104, 105, 98, 109]⟩, .string ⟨s.m.toArray⟩, .string ⟨(Lib.itoa s.n).toArray⟩, .string ⟨(Lib.itoa s.at_).toArray⟩, .string ⟨(Pl.putB s.clock.toNat 8).toArray⟩, .string ⟨(Lib.itoa s.pages).toArray⟩, .string ⟨(Lib.itoa s.blocks).toArray⟩, .string ⟨(Pl.rawB s.c0).toArray⟩, .string ⟨(Pl.rawB s.c1).toArray⟩, .string ⟨(Pl.rawB s.c2).toArray⟩, .string ⟨sm.toArray⟩] 9) = X5 := by rw [← hsme]; exact hX5
        clear hrow hrr hsme
        refine wpAnyH_ready (rs := [30]) (by kernel_rfl) (by simp) (AllReadyH.cons rfl (fun K hK => ?_) AllReadyH.nil)
        go_simp
        refine hK.out _ _ hS5 (fun hHeld => ?_)
        clear hK K
        (try simp only [Act.put, List.setIfInBounds_toArray, List.set_cons_zero, List.set_cons_succ, List.getElem_toArray, List.getElem_cons_succ, List.getElem_cons_zero])
        refine wpAnyH_ready (rs := [31]) (by kernel_rfl) (by simp) (AllReadyH.cons rfl (fun K hK => ?_) AllReadyH.nil)
        go_simp
        (with_reducible refine HRR.out.mono ?_)
        rintro e x6 ⟨v, rfl, rfl, hb6⟩
        have hd6 : Below w.heap.size w x6 := hd5.trans (hb6.mono hd5.size)
        have hS6 := hS5.below (by omega) (by omega) hb6
        refine hK.out _ _ hS6 (fun hHeld => ?_)
        clear hK K
        (try simp only [Act.put, List.setIfInBounds_toArray, List.set_cons_zero, List.set_cons_succ, List.getElem_toArray, List.getElem_cons_succ, List.getElem_cons_zero])
        refine wpAnyH_take (i := 32) (v := ?_) rfl (by kernel_rfl) (by kernel_rfl) (by kernel_rfl) (fun _ _ _ h => h) (Or.inl ⟨by kernel_rfl, ?_⟩) hHeld ?_
        rotate_left
        · (intro w' hSw; obtain ⟨hS0, hS1, hS2, hS3, hS4, hS5, hS6, hS7, hS8, hS9, hS10, hS11, hS12⟩ := hSw; go_simp; try with_reducible rfl)
        simp only [Act.put, List.setIfInBounds_toArray, List.set_cons_zero, List.set_cons_succ, List.getElem_toArray, List.getElem_cons_succ, List.getElem_cons_zero]
        refine wpAnyH_take (i := 33) (v := ?_) rfl (by kernel_rfl) (by kernel_rfl) (by kernel_rfl) (fun _ _ _ h => h) (Or.inl ⟨by kernel_rfl, ?_⟩) hHeld ?_
        rotate_left
        · (intro w' hSw; obtain ⟨hS0, hS1, hS2, hS3, hS4, hS5, hS6, hS7, hS8, hS9, hS10, hS11, hS12⟩ := hSw; go_simp; try with_reducible rfl)
        simp only [Act.put, List.setIfInBounds_toArray, List.set_cons_zero, List.set_cons_succ, List.getElem_toArray, List.getElem_cons_succ, List.getElem_cons_zero]
        refine wpAnyH_done (by kernel_rfl) ?_ _
        go_wp2_with fail
        go_ret2
        exact ⟨_, rfl, by rw [HK.out.2.1]; rfl, hd6⟩
end Go.Proofs.YtommlolhpaeioaaDoor
