/- The document's instruction of its tokens (chapter 11). The document's item of a line's tokens (chapter 11). Printed by genitem.py. -/
import Derived.Test.YtmmnkoeajdeldaaGreatDoorRj2
import Derived.Test.YtmmnkoeajdeldaaGreatDoorRj3
import Derived.Test.YtmmnkoeajdeldaaGreatDoorRj4
namespace Go.Proofs.YtmmnkoeajdeldaaGreatDoor
open Go.RowKit
theorem rins_any (A : Option Addr) (c : Nat) (l : List Pl.Dt) (op : Nat) (w : World) (hr : Rd w 4 A l.length (dtsC l)) (hl0 : 0 < l.length) (hl : l.length ≤ 100000) (hok : ∀ d ∈ l, Pl.DtOk 100000 d) (hop : 1 ≤ op ∧ op ≤ 31) :
    Calls Tryz.prog 121 #[.slice A l.length c, .int .u8 (op : Int)] w (RetB (fun v _ => v = itV (Pl.insD l op)) w) := by
  have h5 := form_le op hop
  have hc : Pl.formN op = 1 ∨ Pl.formN op = 2 ∨ Pl.formN op = 3 ∨ Pl.formN op = 4 ∨ Pl.formN op = 5 := by omega
  rcases hc with h | h | h | h | h
  · exact rins_1 A c l op w hr hl0 hl hok hop h
  · exact rins_2 A c l op w hr hl0 hl hok hop h
  · exact rins_3 A c l op w hr hl0 hl hok hop h
  · exact rins_4 A c l op w hr hl0 hl hok hop h
  · exact rins_5 A c l op w hr hl0 hl hok hop h
end Go.Proofs.YtmmnkoeajdeldaaGreatDoor
namespace Go.Proofs.YtmmnkoeajdeldaaGreatDoor
open Go.RowKit
set_option linter.unusedVariables false
set_option linter.unusedSimpArgs false
attribute [local go_sem] ba_get ba_cut ba_add
theorem opF_rng (s : List UInt8) : ∀ (l : List (List UInt8)) (i n : Nat), Pl.opF s l i = some n → i ≤ n ∧ n < i + l.length
  | [], i, n, h => by cases h
  | a :: r, i, n, h => by
    rw [Pl.opF] at h
    split at h
    · cases h; simp
    · have := opF_rng s r (i + 1) n h
      simp only [List.length_cons]
      omega
theorem opN_rng {s : List UInt8} {n : Nat} (h : Pl.opN s = some n) : 1 ≤ n ∧ n ≤ 31 := by
  have := opF_rng s Pl.opNs 1 n h
  rw [opNs_len] at this
  omega
set_option maxRecDepth 100000 in
set_option maxHeartbeats 8000000 in
theorem ritem_any (A : Option Addr) (c : Nat) (l : List Pl.Dt) (w : World) (hr : Rd w 4 A l.length (dtsC l)) (hl : l.length ≤ 100000) (hok : ∀ d ∈ l, Pl.DtOk 100000 d) :
    Calls Tryz.prog 73 #[.slice A l.length c] w (RetB (fun v _ => v = itV (Pl.itemD l)) w) := by
  obtain ⟨R, hR⟩ : ∃ R, Pl.itemD l = R := ⟨_, rfl⟩
  rw [hR]
  unfold Pl.itemD at hR
  obtain ⟨B, hB⟩ : ∃ B, w.heap.size = B := ⟨_, rfl⟩
  by_cases hl0 : l.length = 0
  · obtain rfl : R = Pl.It.nil := by rw [← hR, if_pos hl0]
    rw [hl0]
    clear hR
    go_enter Tryz.func73, Tryz.ntmps73
    go_upto_region 2 with (fail)
    generalize hW : World.alloc w _ = W
    have hz : W.heap[B]? = some (.cells (itC Pl.It.nil).toArray 74 (0, 0)) := by rw [← hW, ← hB]; exact heap_alloc_new _ _
    have hb : Below w.heap.size w W := by rw [← hW]; exact (Below.refl _ _).alloc (Nat.le_refl _) _
    have J := Lib.hid (And.intro hz hb)
    clear hW hz hb
    obtain ⟨⟨z0, z1, z2, z3, z4, z5, z6, z7, z8, z9⟩, hf⟩ := nil_cells J.out.1
    obtain ⟨f0, f1, f2, f3, f4, f5, f6, f7, f8, f9⟩ := ten hf
    clear hf
    go_wp2_with fail
    exact item_ret (Pl.It.nil) rfl rfl rfl J.out.1 (by rw [← hB]; exact J.out.2) hB
  have hl0' : 0 < l.length := by omega
  rw [if_neg hl0] at hR
  have hki := fun W hb => rkinds_any A c l W (Rd.below hr hb) hl (fun d hd => (hok d hd).k)
  have hins := fun op (h : 1 ≤ op ∧ op ≤ 31) W hb => rins_any A c l op W (Rd.below hr hb) hl0' hl hok h
  have hpr := fun h W hb => rpair_any A c l W (Rd.below hr hb) hl0' hl hok h
  obtain ⟨b, off, rfl, hbl, hT⟩ := tok_all hr hl0'
  have hlen : (Pl.dk l).length = l.length := by simp [Pl.dk]
  obtain ⟨K, hK⟩ : ∃ K, Pl.dk l = K := ⟨_, rfl⟩
  rw [hK] at hki hR hlen
  have hkk : ∀ k ∈ K, k < 256 := by rw [← hK]; intro k hk; obtain ⟨d, hd, rfl⟩ := List.mem_map.1 hk; exact (hok d hd).k
  have HKK := Lib.hid hkk
  clear hkk hl0
  obtain ⟨n, hn⟩ : ∃ n, l.length = n := ⟨_, rfl⟩
  rw [hn] at hki hlen hT hl hl0' hins hpr ⊢
  have hfit := fun W => rfits_any (Pl.dg l 2) W
  unfold dtV at hfit
  obtain ⟨fb, hfb⟩ : ∃ b, Pl.fits32 (Pl.dg l 2) = b := ⟨_, rfl⟩
  rw [hfb] at hR hfit
  obtain ⟨d0, hd0⟩ : ∃ d, Pl.dg l 0 = d := ⟨_, rfl⟩
  obtain ⟨d1, hd1⟩ : ∃ d, Pl.dg l 1 = d := ⟨_, rfl⟩
  obtain ⟨d2, hd2⟩ : ∃ d, Pl.dg l 2 = d := ⟨_, rfl⟩
  rw [hd2] at hfit
  rw [hd0, hd1, hd2] at hR
  rw [hd0] at hpr
  have h0 : ∀ W, Below w.heap.size w W → TkC W b off d0 := fun W hb => by have h := hT W hb 0 (by omega); rw [hd0, Nat.zero_mul] at h; exact h
  have h1 : 1 < n → ∀ W, Below w.heap.size w W → TkC W b (off + 4) d1 := fun hn W hb => by have h := hT W hb 1 hn; rw [hd1] at h; exact h
  have h2 : 2 < n → ∀ W, Below w.heap.size w W → TkC W b (off + 8) d2 := fun hn W hb => by have h := hT W hb 2 hn; rw [hd2] at h; exact h
  have hop := fun W => rop10_any d0.s W
  have hrng := fun n => @opN_rng d0.s n
  unfold opV at hop
  have HT := Lib.hid (And.intro h0 (And.intro h1 h2))
  have HK := Lib.hid hki
  have HF := Lib.hid hfit
  have HI := Lib.hid (And.intro hins hpr)
  have HO := Lib.hid (And.intro hop hrng)
  clear hr hok hT hd0 hd1 hd2 hki hfit hfb h0 h1 h2 hK hn hins hpr hop hrng
  go_enter Tryz.func73, Tryz.ntmps73
  go_upto_region 1 with (fail)
  generalize hW : World.alloc w _ = W
  have hz : W.heap[B]? = some (.cells (itC Pl.It.nil).toArray 74 (0, 0)) := by rw [← hW, ← hB]; exact heap_alloc_new _ _
  have hb : Below w.heap.size w W := by rw [← hW]; exact (Below.refl _ _).alloc (Nat.le_refl _) _
  have HZ := Lib.hid (And.intro hz hb)
  clear hW hz hb
  have en0 : ((n : Int) == 0) = false := by rw [beq_eq_false_iff_ne]; omega
  obtain ⟨c00, c01, c02, c03⟩ := HT.out.1 W HZ.out.2
  by_cases hk0 : d0.k = 119
  case neg =>
    obtain rfl : R = Pl.bad 3 := by rw [← hR, if_pos hk0]
    have e0 : ((d0.k : Int) != 119) = true := by rw [bne_iff_ne]; omega
    clear hR
    go_wp2_with fail
    refine (rbad_any 3 _).mono ?_
    rintro y wb ⟨v, rfl, rfl, hb9⟩
    rw [itV_eq]
    have hz9 := (hb9.block B (blk_lt HZ.out.1)).trans HZ.out.1
    have HB9 := Lib.hid (And.intro hz9 (HZ.out.2.trans (hb9.mono HZ.out.2.size)))
    clear hz9 hb9
    clear c00 c01 c02 c03
    obtain ⟨⟨z0, z1, z2, z3, z4, z5, z6, z7, z8, z9⟩, hf⟩ := nil_cells HB9.out.1
    obtain ⟨f0, f1, f2, f3, f4, f5, f6, f7, f8, f9⟩ := ten hf
    clear hf
    go_wp2_with fail
    exact item_ret (Pl.bad 3) rfl rfl rfl HB9.out.1 (by rw [← hB]; exact HB9.out.2) hB
  rw [if_neg (by omega)] at hR
  rw [hk0] at c00
  go_wp2_with fail
  (with_reducible refine (HK.out _ HZ.out.2).mono ?_)
  rintro y w1 ⟨v, rfl, rfl, hb1⟩
  have hz9 := (hb1.block B (blk_lt HZ.out.1)).trans HZ.out.1
  have H1 := Lib.hid (And.intro hz9 (HZ.out.2.trans (hb1.mono HZ.out.2.size)))
  clear hz9 hb1
  clear c00 c01 c02 c03 en0
  obtain ⟨c00, c01, c02, c03⟩ := HT.out.1 w1 H1.out.2
  obtain ⟨KT, hKT⟩ : ∃ T, K.map UInt8.ofNat = T := ⟨_, rfl⟩
  have HKT := Lib.hid hKT
  rw [hKT]
  by_cases hkc : K = [119, 58]
  case pos =>
    have hkt : KT = [119, 58] := by rw [← hKT, hkc]; rfl
    rw [if_pos hkc] at hR
    subst hR
    subst hkt
    clear hKT
    obtain ⟨⟨z0, z1, z2, z3, z4, z5, z6, z7, z8, z9⟩, hf⟩ := nil_cells H1.out.1
    obtain ⟨f0, f1, f2, f3, f4, f5, f6, f7, f8, f9⟩ := ten hf
    clear hf
    go_wp2_with fail
    exact item_ret (⟨1, d0.s, Pl.Ins.nil, 0, [], 0⟩) rfl rfl rfl H1.out.1 (by rw [← hB]; exact H1.out.2) hB
  rw [if_neg hkc] at hR
  have hk1 : ¬ KT = [119, 58] := by rw [← hKT]; exact fun h => hkc ((kt_eq K [119, 58] HKK.out (by decide)).1 h)
  have ek1 : (KT == [119, 58]) = false := beq_eq_false_iff_ne.2 hk1
  clear hKT hkc hk1
  obtain ⟨s0, hs0⟩ : ∃ s, d0.s = s := ⟨_, rfl⟩
  rw [hs0] at c01 hR HI HO
  by_cases hsp : s0 = Pl.wLi ∨ s0 = Pl.wLa
  case pos =>
    rw [if_pos hsp] at hR
    have HP := Lib.hid (HI.out.2 hsp)
    rw [hR] at HP
    rcases hsp with hsp | hsp
    all_goals
      subst hsp
      simp only [Pl.wLi, Pl.wLa] at c01
      go_wp2_with fail
      (with_reducible refine (HP.out _ H1.out.2).mono ?_)
      rintro y w2 ⟨v, rfl, rfl, hb2⟩
      rw [itV_eq]
      clear c00 c01 c02 c03
      have hz9 := (hb2.block B (blk_lt H1.out.1)).trans H1.out.1
      have H2 := Lib.hid (And.intro hz9 (H1.out.2.trans (hb2.mono H1.out.2.size)))
      clear hz9 hb2
      obtain ⟨⟨z0, z1, z2, z3, z4, z5, z6, z7, z8, z9⟩, hf⟩ := nil_cells H2.out.1
      obtain ⟨f0, f1, f2, f3, f4, f5, f6, f7, f8, f9⟩ := ten hf
      clear hf
      go_wp2_with fail
      exact item_ret (R) rfl rfl rfl H2.out.1 (by rw [← hB]; exact H2.out.2) hB
  rw [if_neg hsp] at hR
  have es1 : ¬ s0 = [108, 105] := fun h => hsp (.inl h)
  have es2 : ¬ s0 = [108, 97] := fun h => hsp (.inr h)
  have fs1 : (s0 == [108, 105]) = false := beq_eq_false_iff_ne.2 es1
  have fs2 : (s0 == [108, 97]) = false := beq_eq_false_iff_ne.2 es2
  clear hsp es1 es2
  by_cases hsw : s0 = Pl.wRaw
  case pos =>
    subst hsw
    rw [if_pos rfl] at hR
    simp only [Pl.wRaw] at c01
    by_cases hk2 : K = [119, 110]
    case neg =>
      rw [if_pos hk2] at hR
      subst hR
      have hkn : ¬ KT = [119, 110] := by rw [← HKT.out]; exact fun h => hk2 ((kt_eq K [119, 110] HKK.out (by decide)).1 h)
      have ek2 : (KT == [119, 110]) = false := beq_eq_false_iff_ne.2 hkn
      clear hkn hk2
      go_wp2_with fail
      refine (rbad_any 3 _).mono ?_
      rintro y wb ⟨v, rfl, rfl, hb9⟩
      rw [itV_eq]
      have hz9 := (hb9.block B (blk_lt H1.out.1)).trans H1.out.1
      have HB9 := Lib.hid (And.intro hz9 (H1.out.2.trans (hb9.mono H1.out.2.size)))
      clear hz9 hb9
      clear c00 c01 c02 c03
      obtain ⟨⟨z0, z1, z2, z3, z4, z5, z6, z7, z8, z9⟩, hf⟩ := nil_cells HB9.out.1
      obtain ⟨f0, f1, f2, f3, f4, f5, f6, f7, f8, f9⟩ := ten hf
      clear hf
      go_wp2_with fail
      exact item_ret (Pl.bad 3) rfl rfl rfl HB9.out.1 (by rw [← hB]; exact HB9.out.2) hB
    rw [if_neg (by intro h; exact h hk2)] at hR
    subst hk2
    have hnn : 2 = n := hlen
    subst hnn
    obtain rfl : [119, 110] = KT := HKT.out
    clear hlen ek1
    obtain ⟨c10, c11, c12, c13⟩ := HT.out.2.1 (by decide) w1 H1.out.2
    by_cases gb : d1.big = true
    case pos =>
      rw [if_pos (.inl gb)] at hR
      subst hR
      rw [gb] at c13
      go_wp2_with fail
      refine (rbad_any 2 _).mono ?_
      rintro y wb ⟨v, rfl, rfl, hb9⟩
      rw [itV_eq]
      have hz9 := (hb9.block B (blk_lt H1.out.1)).trans H1.out.1
      have HB9 := Lib.hid (And.intro hz9 (H1.out.2.trans (hb9.mono H1.out.2.size)))
      clear hz9 hb9
      clear c00 c01 c02 c03 c10 c11 c12 c13
      obtain ⟨⟨z0, z1, z2, z3, z4, z5, z6, z7, z8, z9⟩, hf⟩ := nil_cells HB9.out.1
      obtain ⟨f0, f1, f2, f3, f4, f5, f6, f7, f8, f9⟩ := ten hf
      clear hf
      go_wp2_with fail
      exact item_ret (Pl.bad 2) rfl rfl rfl HB9.out.1 (by rw [← hB]; exact HB9.out.2) hB
    rw [Bool.not_eq_true] at gb
    rw [gb] at c13
    by_cases gl : d1.n < 0
    case pos =>
      rw [if_pos (.inr (.inl gl))] at hR
      subst hR
      go_wp2_with fail
      refine (rbad_any 2 _).mono ?_
      rintro y wb ⟨v, rfl, rfl, hb9⟩
      rw [itV_eq]
      have hz9 := (hb9.block B (blk_lt H1.out.1)).trans H1.out.1
      have HB9 := Lib.hid (And.intro hz9 (H1.out.2.trans (hb9.mono H1.out.2.size)))
      clear hz9 hb9
      clear c00 c01 c02 c03 c10 c11 c12 c13
      obtain ⟨⟨z0, z1, z2, z3, z4, z5, z6, z7, z8, z9⟩, hf⟩ := nil_cells HB9.out.1
      obtain ⟨f0, f1, f2, f3, f4, f5, f6, f7, f8, f9⟩ := ten hf
      clear hf
      go_wp2_with fail
      exact item_ret (Pl.bad 2) rfl rfl rfl HB9.out.1 (by rw [← hB]; exact HB9.out.2) hB
    by_cases gh : 4294967295 < d1.n
    case pos =>
      rw [if_pos (.inr (.inr gh))] at hR
      subst hR
      go_wp2_with fail
      refine (rbad_any 2 _).mono ?_
      rintro y wb ⟨v, rfl, rfl, hb9⟩
      rw [itV_eq]
      have hz9 := (hb9.block B (blk_lt H1.out.1)).trans H1.out.1
      have HB9 := Lib.hid (And.intro hz9 (H1.out.2.trans (hb9.mono H1.out.2.size)))
      clear hz9 hb9
      clear c00 c01 c02 c03 c10 c11 c12 c13
      obtain ⟨⟨z0, z1, z2, z3, z4, z5, z6, z7, z8, z9⟩, hf⟩ := nil_cells HB9.out.1
      obtain ⟨f0, f1, f2, f3, f4, f5, f6, f7, f8, f9⟩ := ten hf
      clear hf
      go_wp2_with fail
      exact item_ret (Pl.bad 2) rfl rfl rfl HB9.out.1 (by rw [← hB]; exact HB9.out.2) hB
    rw [if_neg (by rw [gb]; simp; omega)] at hR
    subst hR
    obtain ⟨⟨z0, z1, z2, z3, z4, z5, z6, z7, z8, z9⟩, hf⟩ := nil_cells H1.out.1
    obtain ⟨f0, f1, f2, f3, f4, f5, f6, f7, f8, f9⟩ := ten hf
    clear hf
    go_wp2_with fail
    exact item_ret (⟨4, [], Pl.Ins.nil, d1.n, [], 0⟩) rfl rfl rfl H1.out.1 (by rw [← hB]; exact H1.out.2) hB
  rw [if_neg hsw] at hR
  have es : ¬ s0 = [114, 97, 119] := hsw
  have fs_wRaw : (s0 == [114, 97, 119]) = false := beq_eq_false_iff_ne.2 es
  clear hsw es
  by_cases hsw : s0 = Pl.wText
  case pos =>
    subst hsw
    rw [if_pos rfl] at hR
    simp only [Pl.wText] at c01
    by_cases hk2 : K = [119, 119, 113]
    case neg =>
      rw [if_pos hk2] at hR
      subst hR
      have hkn : ¬ KT = [119, 119, 113] := by rw [← HKT.out]; exact fun h => hk2 ((kt_eq K [119, 119, 113] HKK.out (by decide)).1 h)
      have ek2 : (KT == [119, 119, 113]) = false := beq_eq_false_iff_ne.2 hkn
      clear hkn hk2
      go_wp2_with fail
      refine (rbad_any 3 _).mono ?_
      rintro y wb ⟨v, rfl, rfl, hb9⟩
      rw [itV_eq]
      have hz9 := (hb9.block B (blk_lt H1.out.1)).trans H1.out.1
      have HB9 := Lib.hid (And.intro hz9 (H1.out.2.trans (hb9.mono H1.out.2.size)))
      clear hz9 hb9
      clear c00 c01 c02 c03
      obtain ⟨⟨z0, z1, z2, z3, z4, z5, z6, z7, z8, z9⟩, hf⟩ := nil_cells HB9.out.1
      obtain ⟨f0, f1, f2, f3, f4, f5, f6, f7, f8, f9⟩ := ten hf
      clear hf
      go_wp2_with fail
      exact item_ret (Pl.bad 3) rfl rfl rfl HB9.out.1 (by rw [← hB]; exact HB9.out.2) hB
    rw [if_neg (by intro h; exact h hk2)] at hR
    subst hk2
    have hnn : 3 = n := hlen
    subst hnn
    obtain rfl : [119, 119, 113] = KT := HKT.out
    clear hlen ek1
    subst hR
    obtain ⟨c10, c11, c12, c13⟩ := HT.out.2.1 (by decide) w1 H1.out.2
    obtain ⟨c20, c21, c22, c23⟩ := HT.out.2.2 (by decide) w1 H1.out.2
    have HX := Lib.hid H1.out
    go_upto_region 21 with (fail)
    refine wp_regionL 9 (fun W => W.cell? ⟨b, off + 4 + 1, none⟩ = some (.string ⟨d1.s.toArray⟩) ∧ W.cell? ⟨b, off + 8 + 1, none⟩ = some (.string ⟨d2.s.toArray⟩)) (by kernel_rfl) (by exact ⟨c11, c21⟩) (fun hHeld => ?_)
    refine takeL (i := 0) (v := ?_) rfl (by kernel_rfl) (by kernel_rfl) (by kernel_rfl) (by kernel_rfl) (by kernel_rfl) (by decide) (fun _ _ _ h => h) (Or.inl ⟨by kernel_rfl, ?_⟩) hHeld ?_
    rotate_left
    · (intro w' hSw; (try dsimp only at hSw); obtain ⟨hS0, hS1⟩ := hSw; go_simp; try with_reducible rfl)
    simp only [Act.put, List.setIfInBounds_toArray, List.set_cons_zero, List.set_cons_succ, List.getElem_toArray, List.getElem_cons_succ, List.getElem_cons_zero]
    refine takeL (i := 1) (v := ?_) rfl (by kernel_rfl) (by kernel_rfl) (by kernel_rfl) (by kernel_rfl) (by kernel_rfl) (by decide) (fun _ _ _ h => h) (Or.inl ⟨by kernel_rfl, ?_⟩) hHeld ?_
    rotate_left
    · (intro w' hSw; (try dsimp only at hSw); obtain ⟨hS0, hS1⟩ := hSw; go_simp; try with_reducible rfl)
    simp only [Act.put, List.setIfInBounds_toArray, List.set_cons_zero, List.set_cons_succ, List.getElem_toArray, List.getElem_cons_succ, List.getElem_cons_zero]
    refine takeL (i := 2) (v := ?_) rfl (by kernel_rfl) (by kernel_rfl) (by kernel_rfl) (by kernel_rfl) (by kernel_rfl) (by decide) (fun _ _ _ h => h) (Or.inl ⟨by kernel_rfl, ?_⟩) hHeld ?_
    rotate_left
    · (intro w' hSw; (try dsimp only at hSw); obtain ⟨hS0, hS1⟩ := hSw; go_simp; try with_reducible rfl)
    simp only [Act.put, List.setIfInBounds_toArray, List.set_cons_zero, List.set_cons_succ, List.getElem_toArray, List.getElem_cons_succ, List.getElem_cons_zero]
    refine takeL (i := 3) (v := ?_) rfl (by kernel_rfl) (by kernel_rfl) (by kernel_rfl) (by kernel_rfl) (by kernel_rfl) (by decide) (fun _ _ _ h => h) (Or.inl ⟨by kernel_rfl, ?_⟩) hHeld ?_
    rotate_left
    · (intro w' hSw; (try dsimp only at hSw); obtain ⟨hS0, hS1⟩ := hSw; go_simp; try with_reducible rfl)
    simp only [Act.put, List.setIfInBounds_toArray, List.set_cons_zero, List.set_cons_succ, List.getElem_toArray, List.getElem_cons_succ, List.getElem_cons_zero]
    refine takeL (i := 4) (v := ?_) rfl (by kernel_rfl) (by kernel_rfl) (by kernel_rfl) (by kernel_rfl) (by kernel_rfl) (by decide) (fun _ _ _ h => h) (Or.inl ⟨by kernel_rfl, ?_⟩) hHeld ?_
    rotate_left
    · (intro w' hSw; (try dsimp only at hSw); obtain ⟨hS0, hS1⟩ := hSw; go_simp; try with_reducible rfl)
    simp only [Act.put, List.setIfInBounds_toArray, List.set_cons_zero, List.set_cons_succ, List.getElem_toArray, List.getElem_cons_succ, List.getElem_cons_zero]
    refine takeL (i := 5) (v := ?_) rfl (by kernel_rfl) (by kernel_rfl) (by kernel_rfl) (by kernel_rfl) (by kernel_rfl) (by decide) (fun _ _ _ h => h) (Or.inl ⟨by kernel_rfl, ?_⟩) hHeld ?_
    rotate_left
    · (intro w' hSw; (try dsimp only at hSw); obtain ⟨hS0, hS1⟩ := hSw; go_simp; try with_reducible rfl)
    simp only [Act.put, List.setIfInBounds_toArray, List.set_cons_zero, List.set_cons_succ, List.getElem_toArray, List.getElem_cons_succ, List.getElem_cons_zero]
    refine takeL (i := 6) (v := ?_) rfl (by kernel_rfl) (by kernel_rfl) (by kernel_rfl) (by kernel_rfl) (by kernel_rfl) (by decide) (fun _ _ _ h => h) (Or.inl ⟨by kernel_rfl, ?_⟩) hHeld ?_
    rotate_left
    · (intro w' hSw; (try dsimp only at hSw); obtain ⟨hS0, hS1⟩ := hSw; go_simp; try with_reducible rfl)
    simp only [Act.put, List.setIfInBounds_toArray, List.set_cons_zero, List.set_cons_succ, List.getElem_toArray, List.getElem_cons_succ, List.getElem_cons_zero]
    refine takeL (i := 7) (v := ?_) rfl (by kernel_rfl) (by kernel_rfl) (by kernel_rfl) (by kernel_rfl) (by kernel_rfl) (by decide) (fun _ _ _ h => h) (Or.inl ⟨by kernel_rfl, ?_⟩) hHeld ?_
    rotate_left
    · (intro w' hSw; (try dsimp only at hSw); obtain ⟨hS0, hS1⟩ := hSw; go_simp; try with_reducible rfl)
    simp only [Act.put, List.setIfInBounds_toArray, List.set_cons_zero, List.set_cons_succ, List.getElem_toArray, List.getElem_cons_succ, List.getElem_cons_zero]
    refine takeL (i := 8) (v := ?_) rfl (by kernel_rfl) (by kernel_rfl) (by kernel_rfl) (by kernel_rfl) (by kernel_rfl) (by decide) (fun _ _ _ h => h) (Or.inl ⟨by kernel_rfl, ?_⟩) hHeld ?_
    rotate_left
    · (intro w' hSw; (try dsimp only at hSw); obtain ⟨hS0, hS1⟩ := hSw; go_simp; try with_reducible rfl)
    simp only [Act.put, List.setIfInBounds_toArray, List.set_cons_zero, List.set_cons_succ, List.getElem_toArray, List.getElem_cons_succ, List.getElem_cons_zero]
    obtain ⟨⟨z0, z1, z2, z3, z4, z5, z6, z7, z8, z9⟩, hf⟩ := nil_cells HX.out.1
    obtain ⟨f0, f1, f2, f3, f4, f5, f6, f7, f8, f9⟩ := ten hf
    clear hf
    refine readyL (rs := [9]) (by kernel_rfl) (by simp) (ReadyL.last rfl (fun K hK => ?_))
    go_simp
    refine hK.out _ _ ?_
    clear hK K
    (try simp only [Act.put, List.setIfInBounds_toArray, List.set_cons_zero, List.set_cons_succ, List.getElem_toArray, List.getElem_cons_succ, List.getElem_cons_zero])
    refine doneL (by kernel_rfl) ?_ _
    go_wp2_with fail
    exact item_retd (⟨5, d1.s, Pl.Ins.nil, 0, d2.s, 0⟩) rfl rfl rfl HX.out.1 (by rw [← hB]; exact HX.out.2) hB
  rw [if_neg hsw] at hR
  have es : ¬ s0 = [116, 101, 120, 116] := hsw
  have fs_wText : (s0 == [116, 101, 120, 116]) = false := beq_eq_false_iff_ne.2 es
  clear hsw es
  by_cases hsw : s0 = Pl.wWord
  case pos =>
    subst hsw
    rw [if_pos rfl] at hR
    simp only [Pl.wWord] at c01
    by_cases hk2 : K = [119, 119, 110]
    case neg =>
      rw [if_pos hk2] at hR
      subst hR
      have hkn : ¬ KT = [119, 119, 110] := by rw [← HKT.out]; exact fun h => hk2 ((kt_eq K [119, 119, 110] HKK.out (by decide)).1 h)
      have ek2 : (KT == [119, 119, 110]) = false := beq_eq_false_iff_ne.2 hkn
      clear hkn hk2
      go_wp2_with fail
      refine (rbad_any 3 _).mono ?_
      rintro y wb ⟨v, rfl, rfl, hb9⟩
      rw [itV_eq]
      have hz9 := (hb9.block B (blk_lt H1.out.1)).trans H1.out.1
      have HB9 := Lib.hid (And.intro hz9 (H1.out.2.trans (hb9.mono H1.out.2.size)))
      clear hz9 hb9
      clear c00 c01 c02 c03
      obtain ⟨⟨z0, z1, z2, z3, z4, z5, z6, z7, z8, z9⟩, hf⟩ := nil_cells HB9.out.1
      obtain ⟨f0, f1, f2, f3, f4, f5, f6, f7, f8, f9⟩ := ten hf
      clear hf
      go_wp2_with fail
      exact item_ret (Pl.bad 3) rfl rfl rfl HB9.out.1 (by rw [← hB]; exact HB9.out.2) hB
    rw [if_neg (by intro h; exact h hk2)] at hR
    subst hk2
    have hnn : 3 = n := hlen
    subst hnn
    obtain rfl : [119, 119, 110] = KT := HKT.out
    clear hlen ek1
    obtain ⟨c20, c21, c22, c23⟩ := HT.out.2.2 (by decide) w1 H1.out.2
    go_wp2_with fail
    (with_reducible refine (HF.out _).mono ?_)
    rintro y w2 ⟨v, rfl, rfl, hb2⟩
    clear c00 c01 c02 c03 c20 c21 c22 c23
    have hz9 := (hb2.block B (blk_lt H1.out.1)).trans H1.out.1
    have HX := Lib.hid (And.intro hz9 (H1.out.2.trans (hb2.mono H1.out.2.size)))
    clear hz9 hb2
    cases fb with
    | false =>
      rw [if_pos rfl] at hR
      subst hR
      go_wp2_with fail
      refine (rbad_any 2 _).mono ?_
      rintro y wb ⟨v, rfl, rfl, hb9⟩
      rw [itV_eq]
      have hz9 := (hb9.block B (blk_lt HX.out.1)).trans HX.out.1
      have HB9 := Lib.hid (And.intro hz9 (HX.out.2.trans (hb9.mono HX.out.2.size)))
      clear hz9 hb9
      obtain ⟨⟨z0, z1, z2, z3, z4, z5, z6, z7, z8, z9⟩, hf⟩ := nil_cells HB9.out.1
      obtain ⟨f0, f1, f2, f3, f4, f5, f6, f7, f8, f9⟩ := ten hf
      clear hf
      go_wp2_with fail
      exact item_ret (Pl.bad 2) rfl rfl rfl HB9.out.1 (by rw [← hB]; exact HB9.out.2) hB
    | true =>
    rw [if_neg (by decide)] at hR
    subst hR
    obtain ⟨c10, c11, c12, c13⟩ := HT.out.2.1 (by decide) w2 HX.out.2
    obtain ⟨c20, c21, c22, c23⟩ := HT.out.2.2 (by decide) w2 HX.out.2
    go_upto_region 27 with (fail)
    refine wp_regionL 9 (fun W => W.cell? ⟨b, off + 4 + 1, none⟩ = some (.string ⟨d1.s.toArray⟩) ∧ W.cell? ⟨b, off + 8 + 2, none⟩ = some (.int .i64 d2.n)) (by kernel_rfl) (by exact ⟨c11, c22⟩) (fun hHeld => ?_)
    refine takeL (i := 0) (v := ?_) rfl (by kernel_rfl) (by kernel_rfl) (by kernel_rfl) (by kernel_rfl) (by kernel_rfl) (by decide) (fun _ _ _ h => h) (Or.inl ⟨by kernel_rfl, ?_⟩) hHeld ?_
    rotate_left
    · (intro w' hSw; (try dsimp only at hSw); obtain ⟨hS0, hS1⟩ := hSw; go_simp; try with_reducible rfl)
    simp only [Act.put, List.setIfInBounds_toArray, List.set_cons_zero, List.set_cons_succ, List.getElem_toArray, List.getElem_cons_succ, List.getElem_cons_zero]
    refine takeL (i := 1) (v := ?_) rfl (by kernel_rfl) (by kernel_rfl) (by kernel_rfl) (by kernel_rfl) (by kernel_rfl) (by decide) (fun _ _ _ h => h) (Or.inl ⟨by kernel_rfl, ?_⟩) hHeld ?_
    rotate_left
    · (intro w' hSw; (try dsimp only at hSw); obtain ⟨hS0, hS1⟩ := hSw; go_simp; try with_reducible rfl)
    simp only [Act.put, List.setIfInBounds_toArray, List.set_cons_zero, List.set_cons_succ, List.getElem_toArray, List.getElem_cons_succ, List.getElem_cons_zero]
    refine takeL (i := 2) (v := ?_) rfl (by kernel_rfl) (by kernel_rfl) (by kernel_rfl) (by kernel_rfl) (by kernel_rfl) (by decide) (fun _ _ _ h => h) (Or.inl ⟨by kernel_rfl, ?_⟩) hHeld ?_
    rotate_left
    · (intro w' hSw; (try dsimp only at hSw); obtain ⟨hS0, hS1⟩ := hSw; go_simp; try with_reducible rfl)
    simp only [Act.put, List.setIfInBounds_toArray, List.set_cons_zero, List.set_cons_succ, List.getElem_toArray, List.getElem_cons_succ, List.getElem_cons_zero]
    refine takeL (i := 3) (v := ?_) rfl (by kernel_rfl) (by kernel_rfl) (by kernel_rfl) (by kernel_rfl) (by kernel_rfl) (by decide) (fun _ _ _ h => h) (Or.inl ⟨by kernel_rfl, ?_⟩) hHeld ?_
    rotate_left
    · (intro w' hSw; (try dsimp only at hSw); obtain ⟨hS0, hS1⟩ := hSw; go_simp; try with_reducible rfl)
    simp only [Act.put, List.setIfInBounds_toArray, List.set_cons_zero, List.set_cons_succ, List.getElem_toArray, List.getElem_cons_succ, List.getElem_cons_zero]
    refine takeL (i := 4) (v := ?_) rfl (by kernel_rfl) (by kernel_rfl) (by kernel_rfl) (by kernel_rfl) (by kernel_rfl) (by decide) (fun _ _ _ h => h) (Or.inl ⟨by kernel_rfl, ?_⟩) hHeld ?_
    rotate_left
    · (intro w' hSw; (try dsimp only at hSw); obtain ⟨hS0, hS1⟩ := hSw; go_simp; try with_reducible rfl)
    simp only [Act.put, List.setIfInBounds_toArray, List.set_cons_zero, List.set_cons_succ, List.getElem_toArray, List.getElem_cons_succ, List.getElem_cons_zero]
    refine takeL (i := 5) (v := ?_) rfl (by kernel_rfl) (by kernel_rfl) (by kernel_rfl) (by kernel_rfl) (by kernel_rfl) (by decide) (fun _ _ _ h => h) (Or.inl ⟨by kernel_rfl, ?_⟩) hHeld ?_
    rotate_left
    · (intro w' hSw; (try dsimp only at hSw); obtain ⟨hS0, hS1⟩ := hSw; go_simp; try with_reducible rfl)
    simp only [Act.put, List.setIfInBounds_toArray, List.set_cons_zero, List.set_cons_succ, List.getElem_toArray, List.getElem_cons_succ, List.getElem_cons_zero]
    refine takeL (i := 6) (v := ?_) rfl (by kernel_rfl) (by kernel_rfl) (by kernel_rfl) (by kernel_rfl) (by kernel_rfl) (by decide) (fun _ _ _ h => h) (Or.inl ⟨by kernel_rfl, ?_⟩) hHeld ?_
    rotate_left
    · (intro w' hSw; (try dsimp only at hSw); obtain ⟨hS0, hS1⟩ := hSw; go_simp; try with_reducible rfl)
    simp only [Act.put, List.setIfInBounds_toArray, List.set_cons_zero, List.set_cons_succ, List.getElem_toArray, List.getElem_cons_succ, List.getElem_cons_zero]
    refine takeL (i := 7) (v := ?_) rfl (by kernel_rfl) (by kernel_rfl) (by kernel_rfl) (by kernel_rfl) (by kernel_rfl) (by decide) (fun _ _ _ h => h) (Or.inl ⟨by kernel_rfl, ?_⟩) hHeld ?_
    rotate_left
    · (intro w' hSw; (try dsimp only at hSw); obtain ⟨hS0, hS1⟩ := hSw; go_simp; try with_reducible rfl)
    simp only [Act.put, List.setIfInBounds_toArray, List.set_cons_zero, List.set_cons_succ, List.getElem_toArray, List.getElem_cons_succ, List.getElem_cons_zero]
    refine takeL (i := 8) (v := ?_) rfl (by kernel_rfl) (by kernel_rfl) (by kernel_rfl) (by kernel_rfl) (by kernel_rfl) (by decide) (fun _ _ _ h => h) (Or.inl ⟨by kernel_rfl, ?_⟩) hHeld ?_
    rotate_left
    · (intro w' hSw; (try dsimp only at hSw); obtain ⟨hS0, hS1⟩ := hSw; go_simp; try with_reducible rfl)
    simp only [Act.put, List.setIfInBounds_toArray, List.set_cons_zero, List.set_cons_succ, List.getElem_toArray, List.getElem_cons_succ, List.getElem_cons_zero]
    obtain ⟨⟨z0, z1, z2, z3, z4, z5, z6, z7, z8, z9⟩, hf⟩ := nil_cells HX.out.1
    obtain ⟨f0, f1, f2, f3, f4, f5, f6, f7, f8, f9⟩ := ten hf
    clear hf
    refine readyL (rs := [9]) (by kernel_rfl) (by simp) (ReadyL.last rfl (fun K hK => ?_))
    go_simp
    refine hK.out _ _ ?_
    clear hK K
    (try simp only [Act.put, List.setIfInBounds_toArray, List.set_cons_zero, List.set_cons_succ, List.getElem_toArray, List.getElem_cons_succ, List.getElem_cons_zero])
    refine doneL (by kernel_rfl) ?_ _
    go_wp2_with fail
    exact item_retd (⟨6, d1.s, Pl.Ins.nil, d2.n, [], 0⟩) rfl rfl rfl HX.out.1 (by rw [← hB]; exact HX.out.2) hB
  rw [if_neg hsw] at hR
  have es : ¬ s0 = [119, 111, 114, 100] := hsw
  have fs_wWord : (s0 == [119, 111, 114, 100]) = false := beq_eq_false_iff_ne.2 es
  clear hsw es
  by_cases hsw : s0 = Pl.wRoom
  case pos =>
    subst hsw
    rw [if_pos rfl] at hR
    simp only [Pl.wRoom] at c01
    by_cases hk2 : K = [119, 119, 110]
    case neg =>
      rw [if_pos hk2] at hR
      subst hR
      have hkn : ¬ KT = [119, 119, 110] := by rw [← HKT.out]; exact fun h => hk2 ((kt_eq K [119, 119, 110] HKK.out (by decide)).1 h)
      have ek2 : (KT == [119, 119, 110]) = false := beq_eq_false_iff_ne.2 hkn
      clear hkn hk2
      go_wp2_with fail
      refine (rbad_any 3 _).mono ?_
      rintro y wb ⟨v, rfl, rfl, hb9⟩
      rw [itV_eq]
      have hz9 := (hb9.block B (blk_lt H1.out.1)).trans H1.out.1
      have HB9 := Lib.hid (And.intro hz9 (H1.out.2.trans (hb9.mono H1.out.2.size)))
      clear hz9 hb9
      clear c00 c01 c02 c03
      obtain ⟨⟨z0, z1, z2, z3, z4, z5, z6, z7, z8, z9⟩, hf⟩ := nil_cells HB9.out.1
      obtain ⟨f0, f1, f2, f3, f4, f5, f6, f7, f8, f9⟩ := ten hf
      clear hf
      go_wp2_with fail
      exact item_ret (Pl.bad 3) rfl rfl rfl HB9.out.1 (by rw [← hB]; exact HB9.out.2) hB
    rw [if_neg (by intro h; exact h hk2)] at hR
    subst hk2
    have hnn : 3 = n := hlen
    subst hnn
    obtain rfl : [119, 119, 110] = KT := HKT.out
    clear hlen ek1
    obtain ⟨c20, c21, c22, c23⟩ := HT.out.2.2 (by decide) w1 H1.out.2
    by_cases gb : d2.big = true
    case pos =>
      rw [if_pos (.inl gb)] at hR
      subst hR
      rw [gb] at c23
      go_wp2_with fail
      refine (rbad_any 2 _).mono ?_
      rintro y wb ⟨v, rfl, rfl, hb9⟩
      rw [itV_eq]
      have hz9 := (hb9.block B (blk_lt H1.out.1)).trans H1.out.1
      have HB9 := Lib.hid (And.intro hz9 (H1.out.2.trans (hb9.mono H1.out.2.size)))
      clear hz9 hb9
      clear c00 c01 c02 c03 c20 c21 c22 c23
      obtain ⟨⟨z0, z1, z2, z3, z4, z5, z6, z7, z8, z9⟩, hf⟩ := nil_cells HB9.out.1
      obtain ⟨f0, f1, f2, f3, f4, f5, f6, f7, f8, f9⟩ := ten hf
      clear hf
      go_wp2_with fail
      exact item_ret (Pl.bad 2) rfl rfl rfl HB9.out.1 (by rw [← hB]; exact HB9.out.2) hB
    rw [Bool.not_eq_true] at gb
    rw [gb] at c23
    by_cases gl : d2.n < 0
    case pos =>
      rw [if_pos (.inr (.inl gl))] at hR
      subst hR
      go_wp2_with fail
      refine (rbad_any 2 _).mono ?_
      rintro y wb ⟨v, rfl, rfl, hb9⟩
      rw [itV_eq]
      have hz9 := (hb9.block B (blk_lt H1.out.1)).trans H1.out.1
      have HB9 := Lib.hid (And.intro hz9 (H1.out.2.trans (hb9.mono H1.out.2.size)))
      clear hz9 hb9
      clear c00 c01 c02 c03 c20 c21 c22 c23
      obtain ⟨⟨z0, z1, z2, z3, z4, z5, z6, z7, z8, z9⟩, hf⟩ := nil_cells HB9.out.1
      obtain ⟨f0, f1, f2, f3, f4, f5, f6, f7, f8, f9⟩ := ten hf
      clear hf
      go_wp2_with fail
      exact item_ret (Pl.bad 2) rfl rfl rfl HB9.out.1 (by rw [← hB]; exact HB9.out.2) hB
    by_cases gh : 65536 < d2.n
    case pos =>
      rw [if_pos (.inr (.inr gh))] at hR
      subst hR
      go_wp2_with fail
      refine (rbad_any 2 _).mono ?_
      rintro y wb ⟨v, rfl, rfl, hb9⟩
      rw [itV_eq]
      have hz9 := (hb9.block B (blk_lt H1.out.1)).trans H1.out.1
      have HB9 := Lib.hid (And.intro hz9 (H1.out.2.trans (hb9.mono H1.out.2.size)))
      clear hz9 hb9
      clear c00 c01 c02 c03 c20 c21 c22 c23
      obtain ⟨⟨z0, z1, z2, z3, z4, z5, z6, z7, z8, z9⟩, hf⟩ := nil_cells HB9.out.1
      obtain ⟨f0, f1, f2, f3, f4, f5, f6, f7, f8, f9⟩ := ten hf
      clear hf
      go_wp2_with fail
      exact item_ret (Pl.bad 2) rfl rfl rfl HB9.out.1 (by rw [← hB]; exact HB9.out.2) hB
    rw [if_neg (by rw [gb]; simp; omega)] at hR
    subst hR
    obtain ⟨c10, c11, c12, c13⟩ := HT.out.2.1 (by decide) w1 H1.out.2
    have HX := Lib.hid H1.out
    go_upto_region 33 with (fail)
    refine wp_regionL 9 (fun W => W.cell? ⟨b, off + 4 + 1, none⟩ = some (.string ⟨d1.s.toArray⟩) ∧ W.cell? ⟨b, off + 8 + 2, none⟩ = some (.int .i64 d2.n)) (by kernel_rfl) (by exact ⟨c11, c22⟩) (fun hHeld => ?_)
    refine takeL (i := 0) (v := ?_) rfl (by kernel_rfl) (by kernel_rfl) (by kernel_rfl) (by kernel_rfl) (by kernel_rfl) (by decide) (fun _ _ _ h => h) (Or.inl ⟨by kernel_rfl, ?_⟩) hHeld ?_
    rotate_left
    · (intro w' hSw; (try dsimp only at hSw); obtain ⟨hS0, hS1⟩ := hSw; go_simp; try with_reducible rfl)
    simp only [Act.put, List.setIfInBounds_toArray, List.set_cons_zero, List.set_cons_succ, List.getElem_toArray, List.getElem_cons_succ, List.getElem_cons_zero]
    refine takeL (i := 1) (v := ?_) rfl (by kernel_rfl) (by kernel_rfl) (by kernel_rfl) (by kernel_rfl) (by kernel_rfl) (by decide) (fun _ _ _ h => h) (Or.inl ⟨by kernel_rfl, ?_⟩) hHeld ?_
    rotate_left
    · (intro w' hSw; (try dsimp only at hSw); obtain ⟨hS0, hS1⟩ := hSw; go_simp; try with_reducible rfl)
    simp only [Act.put, List.setIfInBounds_toArray, List.set_cons_zero, List.set_cons_succ, List.getElem_toArray, List.getElem_cons_succ, List.getElem_cons_zero]
    refine takeL (i := 2) (v := ?_) rfl (by kernel_rfl) (by kernel_rfl) (by kernel_rfl) (by kernel_rfl) (by kernel_rfl) (by decide) (fun _ _ _ h => h) (Or.inl ⟨by kernel_rfl, ?_⟩) hHeld ?_
    rotate_left
    · (intro w' hSw; (try dsimp only at hSw); obtain ⟨hS0, hS1⟩ := hSw; go_simp; try with_reducible rfl)
    simp only [Act.put, List.setIfInBounds_toArray, List.set_cons_zero, List.set_cons_succ, List.getElem_toArray, List.getElem_cons_succ, List.getElem_cons_zero]
    refine takeL (i := 3) (v := ?_) rfl (by kernel_rfl) (by kernel_rfl) (by kernel_rfl) (by kernel_rfl) (by kernel_rfl) (by decide) (fun _ _ _ h => h) (Or.inl ⟨by kernel_rfl, ?_⟩) hHeld ?_
    rotate_left
    · (intro w' hSw; (try dsimp only at hSw); obtain ⟨hS0, hS1⟩ := hSw; go_simp; try with_reducible rfl)
    simp only [Act.put, List.setIfInBounds_toArray, List.set_cons_zero, List.set_cons_succ, List.getElem_toArray, List.getElem_cons_succ, List.getElem_cons_zero]
    refine takeL (i := 4) (v := ?_) rfl (by kernel_rfl) (by kernel_rfl) (by kernel_rfl) (by kernel_rfl) (by kernel_rfl) (by decide) (fun _ _ _ h => h) (Or.inl ⟨by kernel_rfl, ?_⟩) hHeld ?_
    rotate_left
    · (intro w' hSw; (try dsimp only at hSw); obtain ⟨hS0, hS1⟩ := hSw; go_simp; try with_reducible rfl)
    simp only [Act.put, List.setIfInBounds_toArray, List.set_cons_zero, List.set_cons_succ, List.getElem_toArray, List.getElem_cons_succ, List.getElem_cons_zero]
    refine takeL (i := 5) (v := ?_) rfl (by kernel_rfl) (by kernel_rfl) (by kernel_rfl) (by kernel_rfl) (by kernel_rfl) (by decide) (fun _ _ _ h => h) (Or.inl ⟨by kernel_rfl, ?_⟩) hHeld ?_
    rotate_left
    · (intro w' hSw; (try dsimp only at hSw); obtain ⟨hS0, hS1⟩ := hSw; go_simp; try with_reducible rfl)
    simp only [Act.put, List.setIfInBounds_toArray, List.set_cons_zero, List.set_cons_succ, List.getElem_toArray, List.getElem_cons_succ, List.getElem_cons_zero]
    refine takeL (i := 6) (v := ?_) rfl (by kernel_rfl) (by kernel_rfl) (by kernel_rfl) (by kernel_rfl) (by kernel_rfl) (by decide) (fun _ _ _ h => h) (Or.inl ⟨by kernel_rfl, ?_⟩) hHeld ?_
    rotate_left
    · (intro w' hSw; (try dsimp only at hSw); obtain ⟨hS0, hS1⟩ := hSw; go_simp; try with_reducible rfl)
    simp only [Act.put, List.setIfInBounds_toArray, List.set_cons_zero, List.set_cons_succ, List.getElem_toArray, List.getElem_cons_succ, List.getElem_cons_zero]
    refine takeL (i := 7) (v := ?_) rfl (by kernel_rfl) (by kernel_rfl) (by kernel_rfl) (by kernel_rfl) (by kernel_rfl) (by decide) (fun _ _ _ h => h) (Or.inl ⟨by kernel_rfl, ?_⟩) hHeld ?_
    rotate_left
    · (intro w' hSw; (try dsimp only at hSw); obtain ⟨hS0, hS1⟩ := hSw; go_simp; try with_reducible rfl)
    simp only [Act.put, List.setIfInBounds_toArray, List.set_cons_zero, List.set_cons_succ, List.getElem_toArray, List.getElem_cons_succ, List.getElem_cons_zero]
    refine takeL (i := 8) (v := ?_) rfl (by kernel_rfl) (by kernel_rfl) (by kernel_rfl) (by kernel_rfl) (by kernel_rfl) (by decide) (fun _ _ _ h => h) (Or.inl ⟨by kernel_rfl, ?_⟩) hHeld ?_
    rotate_left
    · (intro w' hSw; (try dsimp only at hSw); obtain ⟨hS0, hS1⟩ := hSw; go_simp; try with_reducible rfl)
    simp only [Act.put, List.setIfInBounds_toArray, List.set_cons_zero, List.set_cons_succ, List.getElem_toArray, List.getElem_cons_succ, List.getElem_cons_zero]
    obtain ⟨⟨z0, z1, z2, z3, z4, z5, z6, z7, z8, z9⟩, hf⟩ := nil_cells HX.out.1
    obtain ⟨f0, f1, f2, f3, f4, f5, f6, f7, f8, f9⟩ := ten hf
    clear hf
    refine readyL (rs := [9]) (by kernel_rfl) (by simp) (ReadyL.last rfl (fun K hK => ?_))
    go_simp
    refine hK.out _ _ ?_
    clear hK K
    (try simp only [Act.put, List.setIfInBounds_toArray, List.set_cons_zero, List.set_cons_succ, List.getElem_toArray, List.getElem_cons_succ, List.getElem_cons_zero])
    refine doneL (by kernel_rfl) ?_ _
    go_wp2_with fail
    exact item_retd (⟨7, d1.s, Pl.Ins.nil, d2.n, [], 0⟩) rfl rfl rfl HX.out.1 (by rw [← hB]; exact HX.out.2) hB
  rw [if_neg hsw] at hR
  have es : ¬ s0 = [114, 111, 111, 109] := hsw
  have fs_wRoom : (s0 == [114, 111, 111, 109]) = false := beq_eq_false_iff_ne.2 es
  clear hsw es
  go_wp2_with fail
  (with_reducible refine (HO.out.1 _).mono ?_)
  rintro y w2 ⟨v, rfl, rfl, hb2⟩
  have hz9 := (hb2.block B (blk_lt H1.out.1)).trans H1.out.1
  have H2 := Lib.hid (And.intro hz9 (H1.out.2.trans (hb2.mono H1.out.2.size)))
  clear hz9 hb2
  clear c00 c01 c02 c03
  have hrng := HO.out.2
  obtain ⟨o, ho⟩ : ∃ o, Pl.opN s0 = o := ⟨_, rfl⟩
  rw [ho] at hR hrng ⊢
  clear ho
  cases o with
  | none =>
    dsimp only at hR
    subst hR
    simp only [Option.getD_none, Option.isSome_none]
    go_wp2_with fail
    refine (rbad_any 3 _).mono ?_
    rintro y wb ⟨v, rfl, rfl, hb9⟩
    rw [itV_eq]
    have hz9 := (hb9.block B (blk_lt H2.out.1)).trans H2.out.1
    have HB9 := Lib.hid (And.intro hz9 (H2.out.2.trans (hb9.mono H2.out.2.size)))
    clear hz9 hb9
    obtain ⟨⟨z0, z1, z2, z3, z4, z5, z6, z7, z8, z9⟩, hf⟩ := nil_cells HB9.out.1
    obtain ⟨f0, f1, f2, f3, f4, f5, f6, f7, f8, f9⟩ := ten hf
    clear hf
    go_wp2_with fail
    exact item_ret (Pl.bad 3) rfl rfl rfl HB9.out.1 (by rw [← hB]; exact HB9.out.2) hB
  | some op =>
    dsimp only at hR
    have HP := Lib.hid (HI.out.1 op (hrng op rfl))
    rw [hR] at HP
    simp only [Option.getD_some, Option.isSome_some]
    clear hrng
    go_wp2_with fail
    (with_reducible refine (HP.out _ H2.out.2).mono ?_)
    rintro y w3 ⟨v, rfl, rfl, hb3⟩
    rw [itV_eq]
    have hz9 := (hb3.block B (blk_lt H2.out.1)).trans H2.out.1
    have H3 := Lib.hid (And.intro hz9 (H2.out.2.trans (hb3.mono H2.out.2.size)))
    clear hz9 hb3
    obtain ⟨⟨z0, z1, z2, z3, z4, z5, z6, z7, z8, z9⟩, hf⟩ := nil_cells H3.out.1
    obtain ⟨f0, f1, f2, f3, f4, f5, f6, f7, f8, f9⟩ := ten hf
    clear hf
    go_wp2_with fail
    exact item_ret (R) rfl rfl rfl H3.out.1 (by rw [← hB]; exact H3.out.2) hB
end Go.Proofs.YtmmnkoeajdeldaaGreatDoor
