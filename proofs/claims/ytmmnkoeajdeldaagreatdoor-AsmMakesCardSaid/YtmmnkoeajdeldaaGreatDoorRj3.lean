/- The document's instruction of its tokens (chapter 11), form 3. Printed by genins11.py. The document's instruction of its tokens (chapter 11), form 5. Printed by genins11.py. -/
import Derived.Test.YtmmnkoeajdeldaaGreatDoorRB11
namespace Go.Proofs.YtmmnkoeajdeldaaGreatDoor
open Go.RowKit
set_option linter.unusedVariables false
set_option linter.unusedSimpArgs false
attribute [local go_sem] ba_get ba_cut ba_add
set_option maxRecDepth 100000 in
set_option maxHeartbeats 4000000 in
theorem rins_3 (A : Option Addr) (c : Nat) (l : List Pl.Dt) (op : Nat) (w : World) (hr : Rd w 4 A l.length (dtsC l)) (hl0 : 0 < l.length) (hl : l.length ≤ 100000) (hok : ∀ d ∈ l, Pl.DtOk 100000 d) (hop : 1 ≤ op ∧ op ≤ 31) (hf : Pl.formN op = 3) :
    Calls Tryz.prog 121 #[.slice A l.length c, .int .u8 (op : Int)] w (RetB (fun v _ => v = itV (Pl.insD l op)) w) := by
  have hki := fun W hb => rkinds_any A c l W (Rd.below hr hb) hl (fun d hd => (hok d hd).k)
  obtain ⟨b, off, rfl, hbl, hT⟩ := tok_all hr hl0
  obtain ⟨R, hR⟩ : ∃ R, Pl.insD l op = R := ⟨_, rfl⟩
  have hlen : (Pl.dk l).length = l.length := by simp [Pl.dk]
  have hkd : ∀ i, i < l.length → (Pl.dk l)[i]? = some (Pl.dg l i).k := fun i hi => by
    unfold Pl.dk Pl.dg
    rw [List.getElem?_map, List.getD_eq_getElem?_getD, List.getElem?_eq_getElem hi]; rfl
  rw [hR]
  unfold Pl.insD at hR
  rw [hf] at hR
  obtain ⟨K, hK⟩ : ∃ K, Pl.dk l = K := ⟨_, rfl⟩
  rw [hK] at hki hR hlen hkd
  have hkk : ∀ k ∈ K, k < 256 := by rw [← hK]; intro k hk; obtain ⟨d, hd, rfl⟩ := List.mem_map.1 hk; exact (hok d hd).k
  have HKK := Lib.hid hkk
  clear hkk
  obtain ⟨n, hn⟩ : ∃ n, l.length = n := ⟨_, rfl⟩
  rw [hn] at hki hlen hT hl hl0 hkd ⊢
  have hdk : ∀ i, Pl.DtOk 100000 (Pl.dg l i) := fun i => by
    unfold Pl.dg
    rw [List.getD_eq_getElem?_getD]
    rcases Nat.lt_or_ge i l.length with h | h
    · rw [List.getElem?_eq_getElem h]; exact hok _ (List.getElem_mem h)
    · rw [List.getElem?_eq_none h]; exact Pl.DtOk.nil _
  have hfo := fun W => rform_any op W (by omega)
  have hs1 := fun W => rshape_any 3 (by omega) 110 W
  have hs2 := fun W => rshape_any 3 (by omega) 119 W
  rw [hf] at hfo
  have en : ((Pl.shapeD 3 (110 : UInt8).toNat).map UInt8.ofNat) = [119, 119, 44, 110] := rfl
  have ew : ((Pl.shapeD 3 (119 : UInt8).toNat).map UInt8.ofNat) = [119, 119, 44, 119] := rfl
  rw [en] at hs1
  rw [ew] at hs2
  have HS := Lib.hid (And.intro hfo (And.intro hs1 hs2))
  clear en ew hfo hs1 hs2
  obtain ⟨ra, hra⟩ : ∃ x, Pl.regA l 3 = x := ⟨_, rfl⟩
  obtain ⟨rb, hrb⟩ : ∃ x, Pl.regB l 3 = x := ⟨_, rfl⟩
  obtain ⟨rc, hrc⟩ : ∃ x, Pl.regC l 3 = x := ⟨_, rfl⟩
  rw [hra, hrb, hrc] at hR
  have hreg1 := fun W => rreg11_any (Pl.dg l 1) W (hdk 1).k (hdk 1).s
  rw [show Pl.regD (Pl.dg l 1) = ra from hra] at hreg1
  have hra2 : ra ≤ 255 := by rw [← hra]; exact regD_le _
  unfold dtV at hreg1
  have h0rb : 0 = rb := hrb
  subst h0rb
  have h0rc : 0 = rc := hrc
  subst h0rc
  obtain ⟨d1, hd1⟩ : ∃ d, Pl.dg l 1 = d := ⟨_, rfl⟩
  have h1 : 1 < n → ∀ W, Below w.heap.size w W → TkC W b (off + 4) d1 := fun hn W hb => by have h := hT W hb 1 hn; rw [hd1] at h; exact h
  have hkd1 := hkd 1
  rw [hd1] at hkd1
  obtain ⟨d3, hd3⟩ : ∃ d, Pl.dg l 3 = d := ⟨_, rfl⟩
  have h3 : 3 < n → ∀ W, Below w.heap.size w W → TkC W b (off + 12) d3 := fun hn W hb => by have h := hT W hb 3 hn; rw [hd3] at h; exact h
  have hkd3 := hkd 3
  rw [hd3] at hkd3
  rw [hd1] at hreg1
  rw [show Pl.dg l (Pl.atD 3) = d3 from hd3] at hR
  have hdn : -1000000000000 ≤ d3.n ∧ d3.n ≤ 1000000000000 := by rw [← hd3]; exact (hdk 3).n
  have HT1 := Lib.hid h1
  have HT3 := Lib.hid h3
  have HR1 := Lib.hid hreg1
  have HK := Lib.hid hki
  have HQ := Lib.hid hR
  clear hr hok hT hdk hki hK hn hra hrb hrc hkd hR h1 h3 hd1 hd3 hreg1
  go_enter Tryz.func121, Tryz.ntmps121
  go_upto_region 1 with (fail)
  obtain ⟨B, hB⟩ : ∃ B, w.heap.size = B := ⟨_, rfl⟩
  generalize hW : World.alloc w _ = W
  have hz : W.heap[B]? = some (.cells (itC Pl.It.nil).toArray 74 (0, 0)) := by rw [← hW, ← hB]; exact heap_alloc_new _ _
  have hb : Below w.heap.size w W := by rw [← hW]; exact (Below.refl _ _).alloc (Nat.le_refl _) _
  have HZ := Lib.hid (And.intro hz hb)
  rw [hB]
  clear hW hz hb
  go_wp2_with fail
  refine (HS.out.1 _).mono ?_
  rintro y w1 ⟨rfl, rfl⟩
  go_wp2_with fail
  (with_reducible refine (HK.out _ HZ.out.2).mono ?_)
  rintro y w1 ⟨v, rfl, rfl, hb1⟩
  have hz9 := (hb1.block B (blk_lt HZ.out.1)).trans HZ.out.1
  have H1 := Lib.hid (And.intro hz9 (HZ.out.2.trans (hb1.mono HZ.out.2.size)))
  clear hz9 hb1
  by_cases hkn : K = [119, 119, 44, 110]
  · subst hkn
    have hnn : 4 = n := hlen
    subst hnn
    rw [show (([119, 119, 44, 110] : List Nat).map UInt8.ofNat) = [119, 119, 44, 110] from rfl]
    clear hlen
    go_wp2_with fail
    refine (HS.out.2.1 _).mono ?_
    rintro y w2 ⟨rfl, rfl⟩
    have hq1 : ¬ (([119, 119, 44, 110] : List Nat) ≠ Pl.shapeD 3 110 ∧ ([119, 119, 44, 110] : List Nat) ≠ Pl.shapeD 3 119) := fun h => h.1 rfl
    go_upto_region 6 with (fail)
    obtain ⟨C, hC⟩ : ∃ C, w1.heap.size = C := ⟨_, rfl⟩
    generalize hV : World.alloc w1 _ = V
    have hz7 : V.heap[C]? = some (.cells (inC op 0 0 0 0).toArray 33 (0, 0)) := by rw [← hV, ← hC]; exact heap_alloc_new _ _
    have hbV : Below w1.heap.size w1 V := by rw [← hV]; exact (Below.refl _ _).alloc (Nat.le_refl _) _
    have hwC : w.heap.size ≤ C := by rw [← hC]; exact H1.out.2.size
    have hBC : B ≠ C := by have := blk_lt H1.out.1; omega
    have G0 := Lib.hid (And.intro ((hbV.block B (blk_lt H1.out.1)).trans H1.out.1) (And.intro (H1.out.2.trans (hbV.mono H1.out.2.size)) hz7))
    rw [hC]
    clear hV hbV hz7 hC
    obtain ⟨c0, c1, c2, c3⟩ := HT1.out (by decide) V G0.out.2.1
    go_wp2_with fail
    (with_reducible refine (HR1.out _).mono ?_)
    rintro y u0 ⟨v, rfl, rfl, hbu⟩
    have E0 := Lib.hid (And.intro ((hbu.block B (blk_lt G0.out.1)).trans G0.out.1) (And.intro (G0.out.2.1.trans (hbu.mono G0.out.2.1.size)) ((hbu.block C (blk_lt G0.out.2.2)).trans G0.out.2.2)))
    clear hbu c0 c1 c2 c3
    obtain ⟨⟨y0, y1, y2, y3, y4⟩, hyf⟩ := in_cells E0.out.2.2
    have yf := hyf 1
    clear hyf
    go_upto_region 9 with (fail)
    generalize hV : World.setCell _ _ _ = V0
    have hz7 : V0.heap[C]? = some (.cells (inC op ra 0 0 0).toArray 33 (0, 0)) := by rw [← hV, set_at u0 C 1 _ _ _ E0.out.2.2, inC_set1]
    have G1 := Lib.hid (And.intro (show V0.heap[B]? = some (.cells (itC Pl.It.nil).toArray 74 (0, 0)) from by rw [← hV]; exact (Below.heap_setCell _ _ _ _ (by exact hBC)).trans E0.out.1) (And.intro (show Below w.heap.size w V0 from by rw [← hV]; exact E0.out.2.1.setCell (p := ⟨C, 1, none⟩) (by exact hwC) _) hz7))
    clear hV hz7 y0 y1 y2 y3 y4 yf
    obtain ⟨⟨y0, y1, y2, y3, y4⟩, hyf⟩ := in_cells G1.out.2.2
    by_cases gra : 15 < ra
    case pos =>
      obtain rfl : R = Pl.bad 3 := by rw [← HQ.out, if_neg hq1, if_pos (by omega)]
      have J := Lib.hid (And.intro G1.out.1 G1.out.2.1)
      clear hyf
      go_wp2_with fail
      refine (rbad_any 3 _).mono ?_
      rintro y wb ⟨v, rfl, rfl, hb9⟩
      rw [itV_eq]
      have hz9 := (hb9.block B (blk_lt J.out.1)).trans J.out.1
      have HB9 := Lib.hid (And.intro hz9 (J.out.2.trans (hb9.mono J.out.2.size)))
      clear hz9 hb9
      clear y0 y1 y2 y3 y4
      obtain ⟨⟨z0, z1, z2, z3, z4, z5, z6, z7, z8, z9⟩, hf⟩ := nil_cells HB9.out.1
      obtain ⟨f0, f1, f2, f3, f4, f5, f6, f7, f8, f9⟩ := ten hf
      clear hf
      go_wp2_with fail
      exact item_ret (Pl.bad 3) rfl rfl rfl HB9.out.1 (by rw [← hB]; exact HB9.out.2) hB
    have hq2 : ¬ (15 < ra ∨ 15 < 0 ∨ 15 < 0) := by omega
    have hka : d3.k = 110 := by have h := hkd3 (by decide); exact (Option.some.inj h).symm
    obtain ⟨c0, c1, c2, c3⟩ := HT3.out (by decide) V0 G1.out.2.1
    rw [hka] at c0
    by_cases gb : d3.big = true
    case pos =>
      obtain rfl : R = Pl.bad 2 := by rw [← HQ.out, if_neg hq1, if_neg hq2, if_neg (by decide), if_neg (by omega), if_pos (.inl gb)]
      have J := Lib.hid (And.intro G1.out.1 G1.out.2.1)
      clear hyf hq1 hq2
      rw [gb] at c3
      go_wp2_with fail
      refine (rbad_any 2 _).mono ?_
      rintro y wb ⟨v, rfl, rfl, hb9⟩
      rw [itV_eq]
      have hz9 := (hb9.block B (blk_lt J.out.1)).trans J.out.1
      have HB9 := Lib.hid (And.intro hz9 (J.out.2.trans (hb9.mono J.out.2.size)))
      clear hz9 hb9
      clear y0 y1 y2 y3 y4 c0 c1 c2 c3
      obtain ⟨⟨z0, z1, z2, z3, z4, z5, z6, z7, z8, z9⟩, hf⟩ := nil_cells HB9.out.1
      obtain ⟨f0, f1, f2, f3, f4, f5, f6, f7, f8, f9⟩ := ten hf
      clear hf
      go_wp2_with fail
      exact item_ret (Pl.bad 2) rfl rfl rfl HB9.out.1 (by rw [← hB]; exact HB9.out.2) hB
    rw [Bool.not_eq_true] at gb
    rw [gb] at c3
    by_cases gl : d3.n < -2147483648
    case pos =>
      obtain rfl : R = Pl.bad 2 := by rw [← HQ.out, if_neg hq1, if_neg hq2, if_neg (by decide), if_neg (by omega), if_pos (.inr (.inl gl))]
      have J := Lib.hid (And.intro G1.out.1 G1.out.2.1)
      clear hyf hq1 hq2
      go_wp2_with fail
      refine (rbad_any 2 _).mono ?_
      rintro y wb ⟨v, rfl, rfl, hb9⟩
      rw [itV_eq]
      have hz9 := (hb9.block B (blk_lt J.out.1)).trans J.out.1
      have HB9 := Lib.hid (And.intro hz9 (J.out.2.trans (hb9.mono J.out.2.size)))
      clear hz9 hb9
      clear y0 y1 y2 y3 y4 c0 c1 c2 c3
      obtain ⟨⟨z0, z1, z2, z3, z4, z5, z6, z7, z8, z9⟩, hf⟩ := nil_cells HB9.out.1
      obtain ⟨f0, f1, f2, f3, f4, f5, f6, f7, f8, f9⟩ := ten hf
      clear hf
      go_wp2_with fail
      exact item_ret (Pl.bad 2) rfl rfl rfl HB9.out.1 (by rw [← hB]; exact HB9.out.2) hB
    by_cases gh : 2147483647 < d3.n
    case pos =>
      obtain rfl : R = Pl.bad 2 := by rw [← HQ.out, if_neg hq1, if_neg hq2, if_neg (by decide), if_neg (by omega), if_pos (.inr (.inr gh))]
      have J := Lib.hid (And.intro G1.out.1 G1.out.2.1)
      clear hyf hq1 hq2
      go_wp2_with fail
      refine (rbad_any 2 _).mono ?_
      rintro y wb ⟨v, rfl, rfl, hb9⟩
      rw [itV_eq]
      have hz9 := (hb9.block B (blk_lt J.out.1)).trans J.out.1
      have HB9 := Lib.hid (And.intro hz9 (J.out.2.trans (hb9.mono J.out.2.size)))
      clear hz9 hb9
      clear y0 y1 y2 y3 y4 c0 c1 c2 c3
      obtain ⟨⟨z0, z1, z2, z3, z4, z5, z6, z7, z8, z9⟩, hf⟩ := nil_cells HB9.out.1
      obtain ⟨f0, f1, f2, f3, f4, f5, f6, f7, f8, f9⟩ := ten hf
      clear hf
      go_wp2_with fail
      exact item_ret (Pl.bad 2) rfl rfl rfl HB9.out.1 (by rw [← hB]; exact HB9.out.2) hB
    have hq3 : ¬ (d3.big = true ∨ d3.n < -2147483648 ∨ 2147483647 < d3.n) := by rw [gb]; simp; omega
    have hwr : IntKind.i32.wrap d3.n = d3.n := by rw [IntKind.wrap_i32]; omega
    have yf := hyf 4
    have henc := fun W => renc_any ⟨op, ra, 0, 0, d3.n⟩ W ⟨by show op < 256; omega, by show ra < 256; omega, by show 0 < 256; omega, by show 0 < 256; omega, by show -2147483648 ≤ d3.n; omega, by show d3.n ≤ 2147483647; omega⟩
    unfold encV insV at henc
    dsimp only at henc
    obtain ⟨ee, hee⟩ : ∃ e, Pl.encE ⟨op, ra, 0, 0, d3.n⟩ = e := ⟨_, rfl⟩
    obtain ⟨ew, hew⟩ : ∃ e, Pl.encW ⟨op, ra, 0, 0, d3.n⟩ = e := ⟨_, rfl⟩
    rw [hee, hew] at henc
    have HE := Lib.hid henc
    have HEe := Lib.hid hee
    clear henc hee hew hyf
    go_upto_region 26 with (fail)
    generalize hV : World.setCell _ _ _ = U
    have hz7 : U.heap[C]? = some (.cells (inC op ra 0 0 d3.n).toArray 33 (0, 0)) := by rw [← hV, set_at V0 C 4 _ _ _ G1.out.2.2, inC_set4]
    have GU := Lib.hid (And.intro (show U.heap[B]? = some (.cells (itC Pl.It.nil).toArray 74 (0, 0)) from by rw [← hV]; exact (Below.heap_setCell _ _ _ _ (by exact hBC)).trans G1.out.1) (And.intro (show Below w.heap.size w U from by rw [← hV]; exact G1.out.2.1.setCell (p := ⟨C, 4, none⟩) (by exact hwC) _) hz7))
    clear hV hz7 y0 y1 y2 y3 y4 yf c0 c1 c2 c3
    obtain ⟨⟨y0, y1, y2, y3, y4⟩, hyf⟩ := in_cells GU.out.2.2
    clear hyf
    go_wp2_with fail
    refine (HE.out _).mono ?_
    rintro y wE ⟨v, rfl, rfl, hbE⟩
    have GE := Lib.hid (And.intro ((hbE.block B (blk_lt GU.out.1)).trans GU.out.1) (And.intro (GU.out.2.1.trans (hbE.mono GU.out.2.1.size)) ((hbE.block C (blk_lt GU.out.2.2)).trans GU.out.2.2)))
    have J := Lib.hid (And.intro GE.out.1 GE.out.2.1)
    clear hbE y0 y1 y2 y3 y4
    by_cases he0 : ee = 0
    case neg =>
      obtain rfl : R = Pl.bad ee := by rw [← HQ.out, if_neg hq1, if_neg hq2, if_neg (by decide), if_neg (by omega), if_neg hq3, HEe.out, if_pos he0]
      have e0 : ((ee : Int) != 0) = true := by rw [bne_iff_ne]; omega
      clear hq1 hq2 hq3 he0
      go_wp2_with fail
      refine (rbad_any ee _).mono ?_
      rintro y wb ⟨v, rfl, rfl, hb9⟩
      rw [itV_eq]
      have hz9 := (hb9.block B (blk_lt J.out.1)).trans J.out.1
      have HB9 := Lib.hid (And.intro hz9 (J.out.2.trans (hb9.mono J.out.2.size)))
      clear hz9 hb9
      clear e0
      obtain ⟨⟨z0, z1, z2, z3, z4, z5, z6, z7, z8, z9⟩, hf⟩ := nil_cells HB9.out.1
      obtain ⟨f0, f1, f2, f3, f4, f5, f6, f7, f8, f9⟩ := ten hf
      clear hf
      go_wp2_with fail
      exact item_ret (Pl.bad ee) rfl rfl rfl HB9.out.1 (by rw [← hB]; exact HB9.out.2) hB
    obtain rfl : R = ⟨2, [], ⟨op, ra, 0, 0, d3.n⟩, 0, [], 0⟩ := by rw [← HQ.out, if_neg hq1, if_neg hq2, if_neg (by decide), if_neg (by omega), if_neg hq3, HEe.out, if_neg (by omega)]
    have e0 : ((ee : Int) != 0) = false := by simp; omega
    obtain ⟨⟨y0, y1, y2, y3, y4⟩, hyf⟩ := in_cells GE.out.2.2
    clear hq1 hq2 hq3 he0 hyf
    obtain ⟨⟨z0, z1, z2, z3, z4, z5, z6, z7, z8, z9⟩, hf⟩ := nil_cells J.out.1
    obtain ⟨f0, f1, f2, f3, f4, f5, f6, f7, f8, f9⟩ := ten hf
    clear hf
    go_wp2_with fail
    exact item_ret (⟨2, [], ⟨op, ra, 0, 0, d3.n⟩, 0, [], 0⟩) rfl rfl rfl J.out.1 (by rw [← hB]; exact J.out.2) hB
  by_cases hkw : K = [119, 119, 44, 119]
  · subst hkw
    have hnn : 4 = n := hlen
    subst hnn
    rw [show (([119, 119, 44, 119] : List Nat).map UInt8.ofNat) = [119, 119, 44, 119] from rfl]
    clear hlen hkn
    go_wp2_with fail
    refine (HS.out.2.1 _).mono ?_
    rintro y w2 ⟨rfl, rfl⟩
    go_wp2_with fail
    refine (HS.out.2.2 _).mono ?_
    rintro y w2 ⟨rfl, rfl⟩
    have hq1 : ¬ (([119, 119, 44, 119] : List Nat) ≠ Pl.shapeD 3 110 ∧ ([119, 119, 44, 119] : List Nat) ≠ Pl.shapeD 3 119) := fun h => h.2 rfl
    go_upto_region 6 with (fail)
    obtain ⟨C, hC⟩ : ∃ C, w1.heap.size = C := ⟨_, rfl⟩
    generalize hV : World.alloc w1 _ = V
    have hz7 : V.heap[C]? = some (.cells (inC op 0 0 0 0).toArray 33 (0, 0)) := by rw [← hV, ← hC]; exact heap_alloc_new _ _
    have hbV : Below w1.heap.size w1 V := by rw [← hV]; exact (Below.refl _ _).alloc (Nat.le_refl _) _
    have hwC : w.heap.size ≤ C := by rw [← hC]; exact H1.out.2.size
    have hBC : B ≠ C := by have := blk_lt H1.out.1; omega
    have G0 := Lib.hid (And.intro ((hbV.block B (blk_lt H1.out.1)).trans H1.out.1) (And.intro (H1.out.2.trans (hbV.mono H1.out.2.size)) hz7))
    rw [hC]
    clear hV hbV hz7 hC
    obtain ⟨c0, c1, c2, c3⟩ := HT1.out (by decide) V G0.out.2.1
    go_wp2_with fail
    (with_reducible refine (HR1.out _).mono ?_)
    rintro y u0 ⟨v, rfl, rfl, hbu⟩
    have E0 := Lib.hid (And.intro ((hbu.block B (blk_lt G0.out.1)).trans G0.out.1) (And.intro (G0.out.2.1.trans (hbu.mono G0.out.2.1.size)) ((hbu.block C (blk_lt G0.out.2.2)).trans G0.out.2.2)))
    clear hbu c0 c1 c2 c3
    obtain ⟨⟨y0, y1, y2, y3, y4⟩, hyf⟩ := in_cells E0.out.2.2
    have yf := hyf 1
    clear hyf
    go_upto_region 9 with (fail)
    generalize hV : World.setCell _ _ _ = V0
    have hz7 : V0.heap[C]? = some (.cells (inC op ra 0 0 0).toArray 33 (0, 0)) := by rw [← hV, set_at u0 C 1 _ _ _ E0.out.2.2, inC_set1]
    have G1 := Lib.hid (And.intro (show V0.heap[B]? = some (.cells (itC Pl.It.nil).toArray 74 (0, 0)) from by rw [← hV]; exact (Below.heap_setCell _ _ _ _ (by exact hBC)).trans E0.out.1) (And.intro (show Below w.heap.size w V0 from by rw [← hV]; exact E0.out.2.1.setCell (p := ⟨C, 1, none⟩) (by exact hwC) _) hz7))
    clear hV hz7 y0 y1 y2 y3 y4 yf
    obtain ⟨⟨y0, y1, y2, y3, y4⟩, hyf⟩ := in_cells G1.out.2.2
    by_cases gra : 15 < ra
    case pos =>
      obtain rfl : R = Pl.bad 3 := by rw [← HQ.out, if_neg hq1, if_pos (by omega)]
      have J := Lib.hid (And.intro G1.out.1 G1.out.2.1)
      clear hyf
      go_wp2_with fail
      refine (rbad_any 3 _).mono ?_
      rintro y wb ⟨v, rfl, rfl, hb9⟩
      rw [itV_eq]
      have hz9 := (hb9.block B (blk_lt J.out.1)).trans J.out.1
      have HB9 := Lib.hid (And.intro hz9 (J.out.2.trans (hb9.mono J.out.2.size)))
      clear hz9 hb9
      clear y0 y1 y2 y3 y4
      obtain ⟨⟨z0, z1, z2, z3, z4, z5, z6, z7, z8, z9⟩, hf⟩ := nil_cells HB9.out.1
      obtain ⟨f0, f1, f2, f3, f4, f5, f6, f7, f8, f9⟩ := ten hf
      clear hf
      go_wp2_with fail
      exact item_ret (Pl.bad 3) rfl rfl rfl HB9.out.1 (by rw [← hB]; exact HB9.out.2) hB
    have hq2 : ¬ (15 < ra ∨ 15 < 0 ∨ 15 < 0) := by omega
    have hka : d3.k = 119 := by have h := hkd3 (by decide); exact (Option.some.inj h).symm
    obtain ⟨c0, c1, c2, c3⟩ := HT3.out (by decide) V0 G1.out.2.1
    rw [hka] at c0
    obtain rfl : R = ⟨2, d3.s, ⟨op, ra, 0, 0, 0⟩, 0, [], 0⟩ := by rw [← HQ.out, if_neg hq1, if_neg hq2, if_neg (by decide), if_pos hka]
    have J := Lib.hid (And.intro G1.out.1 G1.out.2.1)
    clear hyf hq1 hq2
    go_upto_region 22 with (fail)
    refine wp_regionL 7 (fun W => W.cell? ⟨C, 0, none⟩ = some (.int .u8 (op : Int)) ∧ W.cell? ⟨C, 1, none⟩ = some (.int .u8 (ra : Int)) ∧ W.cell? ⟨C, 2, none⟩ = some (.int .u8 (0 : Int)) ∧ W.cell? ⟨C, 3, none⟩ = some (.int .u8 (0 : Int)) ∧ W.cell? ⟨C, 4, none⟩ = some (.int .i32 0) ∧ W.cell? ⟨b, off + 12 + 1, none⟩ = some (.string ⟨d3.s.toArray⟩)) (by kernel_rfl) (by exact ⟨y0, y1, y2, y3, y4, c1⟩) (fun hHeld => ?_)
    refine takeL (i := 0) (v := ?_) rfl (by kernel_rfl) (by kernel_rfl) (by kernel_rfl) (by kernel_rfl) (by kernel_rfl) (by decide) (fun _ _ _ h => h) (Or.inl ⟨by kernel_rfl, ?_⟩) hHeld ?_
    rotate_left
    · (intro w' hSw; (try dsimp only at hSw); obtain ⟨hS0, hS1, hS2, hS3, hS4, hS5⟩ := hSw; go_simp; try with_reducible rfl)
    simp only [Act.put, List.setIfInBounds_toArray, List.set_cons_zero, List.set_cons_succ, List.getElem_toArray, List.getElem_cons_succ, List.getElem_cons_zero]
    refine takeL (i := 1) (v := ?_) rfl (by kernel_rfl) (by kernel_rfl) (by kernel_rfl) (by kernel_rfl) (by kernel_rfl) (by decide) (fun _ _ _ h => h) (Or.inl ⟨by kernel_rfl, ?_⟩) hHeld ?_
    rotate_left
    · (intro w' hSw; (try dsimp only at hSw); obtain ⟨hS0, hS1, hS2, hS3, hS4, hS5⟩ := hSw; go_simp; try with_reducible rfl)
    simp only [Act.put, List.setIfInBounds_toArray, List.set_cons_zero, List.set_cons_succ, List.getElem_toArray, List.getElem_cons_succ, List.getElem_cons_zero]
    refine takeL (i := 2) (v := ?_) rfl (by kernel_rfl) (by kernel_rfl) (by kernel_rfl) (by kernel_rfl) (by kernel_rfl) (by decide) (fun _ _ _ h => h) (Or.inl ⟨by kernel_rfl, ?_⟩) hHeld ?_
    rotate_left
    · (intro w' hSw; (try dsimp only at hSw); obtain ⟨hS0, hS1, hS2, hS3, hS4, hS5⟩ := hSw; go_simp; try with_reducible rfl)
    simp only [Act.put, List.setIfInBounds_toArray, List.set_cons_zero, List.set_cons_succ, List.getElem_toArray, List.getElem_cons_succ, List.getElem_cons_zero]
    refine takeL (i := 3) (v := ?_) rfl (by kernel_rfl) (by kernel_rfl) (by kernel_rfl) (by kernel_rfl) (by kernel_rfl) (by decide) (fun _ _ _ h => h) (Or.inl ⟨by kernel_rfl, ?_⟩) hHeld ?_
    rotate_left
    · (intro w' hSw; (try dsimp only at hSw); obtain ⟨hS0, hS1, hS2, hS3, hS4, hS5⟩ := hSw; go_simp; try with_reducible rfl)
    simp only [Act.put, List.setIfInBounds_toArray, List.set_cons_zero, List.set_cons_succ, List.getElem_toArray, List.getElem_cons_succ, List.getElem_cons_zero]
    refine takeL (i := 4) (v := ?_) rfl (by kernel_rfl) (by kernel_rfl) (by kernel_rfl) (by kernel_rfl) (by kernel_rfl) (by decide) (fun _ _ _ h => h) (Or.inl ⟨by kernel_rfl, ?_⟩) hHeld ?_
    rotate_left
    · (intro w' hSw; (try dsimp only at hSw); obtain ⟨hS0, hS1, hS2, hS3, hS4, hS5⟩ := hSw; go_simp; try with_reducible rfl)
    simp only [Act.put, List.setIfInBounds_toArray, List.set_cons_zero, List.set_cons_succ, List.getElem_toArray, List.getElem_cons_succ, List.getElem_cons_zero]
    refine takeL (i := 5) (v := ?_) rfl (by kernel_rfl) (by kernel_rfl) (by kernel_rfl) (by kernel_rfl) (by kernel_rfl) (by decide) (fun _ _ _ h => h) (Or.inl ⟨by kernel_rfl, ?_⟩) hHeld ?_
    rotate_left
    · (intro w' hSw; (try dsimp only at hSw); obtain ⟨hS0, hS1, hS2, hS3, hS4, hS5⟩ := hSw; go_simp; try with_reducible rfl)
    simp only [Act.put, List.setIfInBounds_toArray, List.set_cons_zero, List.set_cons_succ, List.getElem_toArray, List.getElem_cons_succ, List.getElem_cons_zero]
    refine takeL (i := 6) (v := ?_) rfl (by kernel_rfl) (by kernel_rfl) (by kernel_rfl) (by kernel_rfl) (by kernel_rfl) (by decide) (fun _ _ _ h => h) (Or.inl ⟨by kernel_rfl, ?_⟩) hHeld ?_
    rotate_left
    · (intro w' hSw; (try dsimp only at hSw); obtain ⟨hS0, hS1, hS2, hS3, hS4, hS5⟩ := hSw; go_simp; try with_reducible rfl)
    simp only [Act.put, List.setIfInBounds_toArray, List.set_cons_zero, List.set_cons_succ, List.getElem_toArray, List.getElem_cons_succ, List.getElem_cons_zero]
    obtain ⟨⟨z0, z1, z2, z3, z4, z5, z6, z7, z8, z9⟩, hf⟩ := nil_cells J.out.1
    obtain ⟨f0, f1, f2, f3, f4, f5, f6, f7, f8, f9⟩ := ten hf
    clear hf
    refine readyL (rs := [7]) (by kernel_rfl) (by simp) (ReadyL.last rfl (fun K hK => ?_))
    go_simp
    refine hK.out _ _ ?_
    clear hK K
    (try simp only [Act.put, List.setIfInBounds_toArray, List.set_cons_zero, List.set_cons_succ, List.getElem_toArray, List.getElem_cons_succ, List.getElem_cons_zero])
    refine doneL (by kernel_rfl) ?_ _
    go_wp2_with fail
    exact item_retd (⟨2, d3.s, ⟨op, ra, 0, 0, 0⟩, 0, [], 0⟩) rfl rfl rfl J.out.1 (by rw [← hB]; exact J.out.2) hB
  obtain rfl : R = Pl.bad 3 := by rw [← HQ.out, if_pos ⟨hkn, hkw⟩]
  have hk1 : ¬ K.map UInt8.ofNat = ([119, 119, 44, 110] : List Nat).map UInt8.ofNat := fun h => hkn ((kt_eq K _ HKK.out (by decide)).1 h)
  change ¬ K.map UInt8.ofNat = [119, 119, 44, 110] at hk1
  have hk2 : ¬ K.map UInt8.ofNat = ([119, 119, 44, 119] : List Nat).map UInt8.ofNat := fun h => hkw ((kt_eq K _ HKK.out (by decide)).1 h)
  change ¬ K.map UInt8.ofNat = [119, 119, 44, 119] at hk2
  obtain ⟨KT, hKT⟩ : ∃ T, K.map UInt8.ofNat = T := ⟨_, rfl⟩
  rw [hKT] at hk1 hk2 ⊢
  have ek1 : (KT == [119, 119, 44, 110]) = false := beq_eq_false_iff_ne.2 hk1
  have ek2 : (KT == [119, 119, 44, 119]) = false := beq_eq_false_iff_ne.2 hk2
  clear hKT hkn hkw
  go_wp2_with fail
  refine (HS.out.2.1 _).mono ?_
  rintro y w2 ⟨rfl, rfl⟩
  go_wp2_with fail
  refine (HS.out.2.2 _).mono ?_
  rintro y w2 ⟨rfl, rfl⟩
  go_wp2_with fail
  refine (rbad_any 3 _).mono ?_
  rintro y wb ⟨v, rfl, rfl, hb9⟩
  rw [itV_eq]
  have hz9 := (hb9.block B (blk_lt H1.out.1)).trans H1.out.1
  have HB9 := Lib.hid (And.intro hz9 (H1.out.2.trans (hb9.mono H1.out.2.size)))
  clear hz9 hb9
  obtain ⟨⟨z0, z1, z2, z3, z4, z5, z6, z7, z8, z9⟩, hf⟩ := nil_cells HB9.out.1
  obtain ⟨f0, f1, f2, f3, f4, f5, f6, f7, f8, f9⟩ := ten hf
  clear hf
  go_wp2_with fail
  exact item_ret (Pl.bad 3) rfl rfl rfl HB9.out.1 (by rw [← hB]; exact HB9.out.2) hB
end Go.Proofs.YtmmnkoeajdeldaaGreatDoor
namespace Go.Proofs.YtmmnkoeajdeldaaGreatDoor
open Go.RowKit
set_option linter.unusedVariables false
set_option linter.unusedSimpArgs false
attribute [local go_sem] ba_get ba_cut ba_add
set_option maxRecDepth 100000 in
set_option maxHeartbeats 4000000 in
theorem rins_5 (A : Option Addr) (c : Nat) (l : List Pl.Dt) (op : Nat) (w : World) (hr : Rd w 4 A l.length (dtsC l)) (hl0 : 0 < l.length) (hl : l.length ≤ 100000) (hok : ∀ d ∈ l, Pl.DtOk 100000 d) (hop : 1 ≤ op ∧ op ≤ 31) (hf : Pl.formN op = 5) :
    Calls Tryz.prog 121 #[.slice A l.length c, .int .u8 (op : Int)] w (RetB (fun v _ => v = itV (Pl.insD l op)) w) := by
  have hki := fun W hb => rkinds_any A c l W (Rd.below hr hb) hl (fun d hd => (hok d hd).k)
  obtain ⟨b, off, rfl, hbl, hT⟩ := tok_all hr hl0
  obtain ⟨R, hR⟩ : ∃ R, Pl.insD l op = R := ⟨_, rfl⟩
  have hlen : (Pl.dk l).length = l.length := by simp [Pl.dk]
  have hkd : ∀ i, i < l.length → (Pl.dk l)[i]? = some (Pl.dg l i).k := fun i hi => by
    unfold Pl.dk Pl.dg
    rw [List.getElem?_map, List.getD_eq_getElem?_getD, List.getElem?_eq_getElem hi]; rfl
  rw [hR]
  unfold Pl.insD at hR
  rw [hf] at hR
  obtain ⟨K, hK⟩ : ∃ K, Pl.dk l = K := ⟨_, rfl⟩
  rw [hK] at hki hR hlen hkd
  have hkk : ∀ k ∈ K, k < 256 := by rw [← hK]; intro k hk; obtain ⟨d, hd, rfl⟩ := List.mem_map.1 hk; exact (hok d hd).k
  have HKK := Lib.hid hkk
  clear hkk
  obtain ⟨n, hn⟩ : ∃ n, l.length = n := ⟨_, rfl⟩
  rw [hn] at hki hlen hT hl hl0 hkd ⊢
  have hdk : ∀ i, Pl.DtOk 100000 (Pl.dg l i) := fun i => by
    unfold Pl.dg
    rw [List.getD_eq_getElem?_getD]
    rcases Nat.lt_or_ge i l.length with h | h
    · rw [List.getElem?_eq_getElem h]; exact hok _ (List.getElem_mem h)
    · rw [List.getElem?_eq_none h]; exact Pl.DtOk.nil _
  have hfo := fun W => rform_any op W (by omega)
  have hs1 := fun W => rshape_any 5 (by omega) 110 W
  have hs2 := fun W => rshape_any 5 (by omega) 119 W
  rw [hf] at hfo
  have en : ((Pl.shapeD 5 (110 : UInt8).toNat).map UInt8.ofNat) = [119, 110] := rfl
  have ew : ((Pl.shapeD 5 (119 : UInt8).toNat).map UInt8.ofNat) = [119, 119] := rfl
  rw [en] at hs1
  rw [ew] at hs2
  have HS := Lib.hid (And.intro hfo (And.intro hs1 hs2))
  clear en ew hfo hs1 hs2
  obtain ⟨ra, hra⟩ : ∃ x, Pl.regA l 5 = x := ⟨_, rfl⟩
  obtain ⟨rb, hrb⟩ : ∃ x, Pl.regB l 5 = x := ⟨_, rfl⟩
  obtain ⟨rc, hrc⟩ : ∃ x, Pl.regC l 5 = x := ⟨_, rfl⟩
  rw [hra, hrb, hrc] at hR
  have h0ra : 0 = ra := hra
  subst h0ra
  have h0rb : 0 = rb := hrb
  subst h0rb
  have h0rc : 0 = rc := hrc
  subst h0rc
  obtain ⟨d1, hd1⟩ : ∃ d, Pl.dg l 1 = d := ⟨_, rfl⟩
  have h1 : 1 < n → ∀ W, Below w.heap.size w W → TkC W b (off + 4) d1 := fun hn W hb => by have h := hT W hb 1 hn; rw [hd1] at h; exact h
  have hkd1 := hkd 1
  rw [hd1] at hkd1
  rw [show Pl.dg l (Pl.atD 5) = d1 from hd1] at hR
  have hdn : -1000000000000 ≤ d1.n ∧ d1.n ≤ 1000000000000 := by rw [← hd1]; exact (hdk 1).n
  have HT1 := Lib.hid h1
  have HK := Lib.hid hki
  have HQ := Lib.hid hR
  clear hr hok hT hdk hki hK hn hra hrb hrc hkd hR h1 hd1 
  go_enter Tryz.func121, Tryz.ntmps121
  go_upto_region 1 with (fail)
  obtain ⟨B, hB⟩ : ∃ B, w.heap.size = B := ⟨_, rfl⟩
  generalize hW : World.alloc w _ = W
  have hz : W.heap[B]? = some (.cells (itC Pl.It.nil).toArray 74 (0, 0)) := by rw [← hW, ← hB]; exact heap_alloc_new _ _
  have hb : Below w.heap.size w W := by rw [← hW]; exact (Below.refl _ _).alloc (Nat.le_refl _) _
  have HZ := Lib.hid (And.intro hz hb)
  rw [hB]
  clear hW hz hb
  go_wp2_with fail
  refine (HS.out.1 _).mono ?_
  rintro y w1 ⟨rfl, rfl⟩
  go_wp2_with fail
  (with_reducible refine (HK.out _ HZ.out.2).mono ?_)
  rintro y w1 ⟨v, rfl, rfl, hb1⟩
  have hz9 := (hb1.block B (blk_lt HZ.out.1)).trans HZ.out.1
  have H1 := Lib.hid (And.intro hz9 (HZ.out.2.trans (hb1.mono HZ.out.2.size)))
  clear hz9 hb1
  by_cases hkn : K = [119, 110]
  · subst hkn
    have hnn : 2 = n := hlen
    subst hnn
    rw [show (([119, 110] : List Nat).map UInt8.ofNat) = [119, 110] from rfl]
    clear hlen
    go_wp2_with fail
    refine (HS.out.2.1 _).mono ?_
    rintro y w2 ⟨rfl, rfl⟩
    have hq1 : ¬ (([119, 110] : List Nat) ≠ Pl.shapeD 5 110 ∧ ([119, 110] : List Nat) ≠ Pl.shapeD 5 119) := fun h => h.1 rfl
    go_upto_region 6 with (fail)
    obtain ⟨C, hC⟩ : ∃ C, w1.heap.size = C := ⟨_, rfl⟩
    generalize hV : World.alloc w1 _ = V
    have hz7 : V.heap[C]? = some (.cells (inC op 0 0 0 0).toArray 33 (0, 0)) := by rw [← hV, ← hC]; exact heap_alloc_new _ _
    have hbV : Below w1.heap.size w1 V := by rw [← hV]; exact (Below.refl _ _).alloc (Nat.le_refl _) _
    have hwC : w.heap.size ≤ C := by rw [← hC]; exact H1.out.2.size
    have hBC : B ≠ C := by have := blk_lt H1.out.1; omega
    have G0 := Lib.hid (And.intro ((hbV.block B (blk_lt H1.out.1)).trans H1.out.1) (And.intro (H1.out.2.trans (hbV.mono H1.out.2.size)) hz7))
    rw [hC]
    clear hV hbV hz7 hC
    obtain ⟨⟨y0, y1, y2, y3, y4⟩, hyf⟩ := in_cells G0.out.2.2
    have hq2 : ¬ (15 < 0 ∨ 15 < 0 ∨ 15 < 0) := by omega
    have hka : d1.k = 110 := by have h := hkd1 (by decide); exact (Option.some.inj h).symm
    obtain ⟨c0, c1, c2, c3⟩ := HT1.out (by decide) V G0.out.2.1
    rw [hka] at c0
    by_cases gb : d1.big = true
    case pos =>
      obtain rfl : R = Pl.bad 2 := by rw [← HQ.out, if_neg hq1, if_neg hq2, if_neg (by decide), if_neg (by omega), if_pos (.inl gb)]
      have J := Lib.hid (And.intro G0.out.1 G0.out.2.1)
      clear hyf hq1 hq2
      rw [gb] at c3
      go_wp2_with fail
      refine (rbad_any 2 _).mono ?_
      rintro y wb ⟨v, rfl, rfl, hb9⟩
      rw [itV_eq]
      have hz9 := (hb9.block B (blk_lt J.out.1)).trans J.out.1
      have HB9 := Lib.hid (And.intro hz9 (J.out.2.trans (hb9.mono J.out.2.size)))
      clear hz9 hb9
      clear y0 y1 y2 y3 y4 c0 c1 c2 c3
      obtain ⟨⟨z0, z1, z2, z3, z4, z5, z6, z7, z8, z9⟩, hf⟩ := nil_cells HB9.out.1
      obtain ⟨f0, f1, f2, f3, f4, f5, f6, f7, f8, f9⟩ := ten hf
      clear hf
      go_wp2_with fail
      exact item_ret (Pl.bad 2) rfl rfl rfl HB9.out.1 (by rw [← hB]; exact HB9.out.2) hB
    rw [Bool.not_eq_true] at gb
    rw [gb] at c3
    by_cases gl : d1.n < -2147483648
    case pos =>
      obtain rfl : R = Pl.bad 2 := by rw [← HQ.out, if_neg hq1, if_neg hq2, if_neg (by decide), if_neg (by omega), if_pos (.inr (.inl gl))]
      have J := Lib.hid (And.intro G0.out.1 G0.out.2.1)
      clear hyf hq1 hq2
      go_wp2_with fail
      refine (rbad_any 2 _).mono ?_
      rintro y wb ⟨v, rfl, rfl, hb9⟩
      rw [itV_eq]
      have hz9 := (hb9.block B (blk_lt J.out.1)).trans J.out.1
      have HB9 := Lib.hid (And.intro hz9 (J.out.2.trans (hb9.mono J.out.2.size)))
      clear hz9 hb9
      clear y0 y1 y2 y3 y4 c0 c1 c2 c3
      obtain ⟨⟨z0, z1, z2, z3, z4, z5, z6, z7, z8, z9⟩, hf⟩ := nil_cells HB9.out.1
      obtain ⟨f0, f1, f2, f3, f4, f5, f6, f7, f8, f9⟩ := ten hf
      clear hf
      go_wp2_with fail
      exact item_ret (Pl.bad 2) rfl rfl rfl HB9.out.1 (by rw [← hB]; exact HB9.out.2) hB
    by_cases gh : 2147483647 < d1.n
    case pos =>
      obtain rfl : R = Pl.bad 2 := by rw [← HQ.out, if_neg hq1, if_neg hq2, if_neg (by decide), if_neg (by omega), if_pos (.inr (.inr gh))]
      have J := Lib.hid (And.intro G0.out.1 G0.out.2.1)
      clear hyf hq1 hq2
      go_wp2_with fail
      refine (rbad_any 2 _).mono ?_
      rintro y wb ⟨v, rfl, rfl, hb9⟩
      rw [itV_eq]
      have hz9 := (hb9.block B (blk_lt J.out.1)).trans J.out.1
      have HB9 := Lib.hid (And.intro hz9 (J.out.2.trans (hb9.mono J.out.2.size)))
      clear hz9 hb9
      clear y0 y1 y2 y3 y4 c0 c1 c2 c3
      obtain ⟨⟨z0, z1, z2, z3, z4, z5, z6, z7, z8, z9⟩, hf⟩ := nil_cells HB9.out.1
      obtain ⟨f0, f1, f2, f3, f4, f5, f6, f7, f8, f9⟩ := ten hf
      clear hf
      go_wp2_with fail
      exact item_ret (Pl.bad 2) rfl rfl rfl HB9.out.1 (by rw [← hB]; exact HB9.out.2) hB
    have hq3 : ¬ (d1.big = true ∨ d1.n < -2147483648 ∨ 2147483647 < d1.n) := by rw [gb]; simp; omega
    have hwr : IntKind.i32.wrap d1.n = d1.n := by rw [IntKind.wrap_i32]; omega
    have yf := hyf 4
    have henc := fun W => renc_any ⟨op, 0, 0, 0, d1.n⟩ W ⟨by show op < 256; omega, by show 0 < 256; omega, by show 0 < 256; omega, by show 0 < 256; omega, by show -2147483648 ≤ d1.n; omega, by show d1.n ≤ 2147483647; omega⟩
    unfold encV insV at henc
    dsimp only at henc
    obtain ⟨ee, hee⟩ : ∃ e, Pl.encE ⟨op, 0, 0, 0, d1.n⟩ = e := ⟨_, rfl⟩
    obtain ⟨ew, hew⟩ : ∃ e, Pl.encW ⟨op, 0, 0, 0, d1.n⟩ = e := ⟨_, rfl⟩
    rw [hee, hew] at henc
    have HE := Lib.hid henc
    have HEe := Lib.hid hee
    clear henc hee hew hyf
    go_upto_region 26 with (fail)
    generalize hV : World.setCell _ _ _ = U
    have hz7 : U.heap[C]? = some (.cells (inC op 0 0 0 d1.n).toArray 33 (0, 0)) := by rw [← hV, set_at V C 4 _ _ _ G0.out.2.2, inC_set4]
    have GU := Lib.hid (And.intro (show U.heap[B]? = some (.cells (itC Pl.It.nil).toArray 74 (0, 0)) from by rw [← hV]; exact (Below.heap_setCell _ _ _ _ (by exact hBC)).trans G0.out.1) (And.intro (show Below w.heap.size w U from by rw [← hV]; exact G0.out.2.1.setCell (p := ⟨C, 4, none⟩) (by exact hwC) _) hz7))
    clear hV hz7 y0 y1 y2 y3 y4 yf c0 c1 c2 c3
    obtain ⟨⟨y0, y1, y2, y3, y4⟩, hyf⟩ := in_cells GU.out.2.2
    clear hyf
    go_wp2_with fail
    refine (HE.out _).mono ?_
    rintro y wE ⟨v, rfl, rfl, hbE⟩
    have GE := Lib.hid (And.intro ((hbE.block B (blk_lt GU.out.1)).trans GU.out.1) (And.intro (GU.out.2.1.trans (hbE.mono GU.out.2.1.size)) ((hbE.block C (blk_lt GU.out.2.2)).trans GU.out.2.2)))
    have J := Lib.hid (And.intro GE.out.1 GE.out.2.1)
    clear hbE y0 y1 y2 y3 y4
    by_cases he0 : ee = 0
    case neg =>
      obtain rfl : R = Pl.bad ee := by rw [← HQ.out, if_neg hq1, if_neg hq2, if_neg (by decide), if_neg (by omega), if_neg hq3, HEe.out, if_pos he0]
      have e0 : ((ee : Int) != 0) = true := by rw [bne_iff_ne]; omega
      clear hq1 hq2 hq3 he0
      go_wp2_with fail
      refine (rbad_any ee _).mono ?_
      rintro y wb ⟨v, rfl, rfl, hb9⟩
      rw [itV_eq]
      have hz9 := (hb9.block B (blk_lt J.out.1)).trans J.out.1
      have HB9 := Lib.hid (And.intro hz9 (J.out.2.trans (hb9.mono J.out.2.size)))
      clear hz9 hb9
      clear e0
      obtain ⟨⟨z0, z1, z2, z3, z4, z5, z6, z7, z8, z9⟩, hf⟩ := nil_cells HB9.out.1
      obtain ⟨f0, f1, f2, f3, f4, f5, f6, f7, f8, f9⟩ := ten hf
      clear hf
      go_wp2_with fail
      exact item_ret (Pl.bad ee) rfl rfl rfl HB9.out.1 (by rw [← hB]; exact HB9.out.2) hB
    obtain rfl : R = ⟨2, [], ⟨op, 0, 0, 0, d1.n⟩, 0, [], 0⟩ := by rw [← HQ.out, if_neg hq1, if_neg hq2, if_neg (by decide), if_neg (by omega), if_neg hq3, HEe.out, if_neg (by omega)]
    have e0 : ((ee : Int) != 0) = false := by simp; omega
    obtain ⟨⟨y0, y1, y2, y3, y4⟩, hyf⟩ := in_cells GE.out.2.2
    clear hq1 hq2 hq3 he0 hyf
    obtain ⟨⟨z0, z1, z2, z3, z4, z5, z6, z7, z8, z9⟩, hf⟩ := nil_cells J.out.1
    obtain ⟨f0, f1, f2, f3, f4, f5, f6, f7, f8, f9⟩ := ten hf
    clear hf
    go_wp2_with fail
    exact item_ret (⟨2, [], ⟨op, 0, 0, 0, d1.n⟩, 0, [], 0⟩) rfl rfl rfl J.out.1 (by rw [← hB]; exact J.out.2) hB
  by_cases hkw : K = [119, 119]
  · subst hkw
    have hnn : 2 = n := hlen
    subst hnn
    rw [show (([119, 119] : List Nat).map UInt8.ofNat) = [119, 119] from rfl]
    clear hlen hkn
    go_wp2_with fail
    refine (HS.out.2.1 _).mono ?_
    rintro y w2 ⟨rfl, rfl⟩
    go_wp2_with fail
    refine (HS.out.2.2 _).mono ?_
    rintro y w2 ⟨rfl, rfl⟩
    have hq1 : ¬ (([119, 119] : List Nat) ≠ Pl.shapeD 5 110 ∧ ([119, 119] : List Nat) ≠ Pl.shapeD 5 119) := fun h => h.2 rfl
    go_upto_region 6 with (fail)
    obtain ⟨C, hC⟩ : ∃ C, w1.heap.size = C := ⟨_, rfl⟩
    generalize hV : World.alloc w1 _ = V
    have hz7 : V.heap[C]? = some (.cells (inC op 0 0 0 0).toArray 33 (0, 0)) := by rw [← hV, ← hC]; exact heap_alloc_new _ _
    have hbV : Below w1.heap.size w1 V := by rw [← hV]; exact (Below.refl _ _).alloc (Nat.le_refl _) _
    have hwC : w.heap.size ≤ C := by rw [← hC]; exact H1.out.2.size
    have hBC : B ≠ C := by have := blk_lt H1.out.1; omega
    have G0 := Lib.hid (And.intro ((hbV.block B (blk_lt H1.out.1)).trans H1.out.1) (And.intro (H1.out.2.trans (hbV.mono H1.out.2.size)) hz7))
    rw [hC]
    clear hV hbV hz7 hC
    obtain ⟨⟨y0, y1, y2, y3, y4⟩, hyf⟩ := in_cells G0.out.2.2
    have hq2 : ¬ (15 < 0 ∨ 15 < 0 ∨ 15 < 0) := by omega
    have hka : d1.k = 119 := by have h := hkd1 (by decide); exact (Option.some.inj h).symm
    obtain ⟨c0, c1, c2, c3⟩ := HT1.out (by decide) V G0.out.2.1
    rw [hka] at c0
    obtain rfl : R = ⟨2, d1.s, ⟨op, 0, 0, 0, 0⟩, 0, [], 0⟩ := by rw [← HQ.out, if_neg hq1, if_neg hq2, if_neg (by decide), if_pos hka]
    have J := Lib.hid (And.intro G0.out.1 G0.out.2.1)
    clear hyf hq1 hq2
    go_upto_region 22 with (fail)
    refine wp_regionL 7 (fun W => W.cell? ⟨C, 0, none⟩ = some (.int .u8 (op : Int)) ∧ W.cell? ⟨C, 1, none⟩ = some (.int .u8 (0 : Int)) ∧ W.cell? ⟨C, 2, none⟩ = some (.int .u8 (0 : Int)) ∧ W.cell? ⟨C, 3, none⟩ = some (.int .u8 (0 : Int)) ∧ W.cell? ⟨C, 4, none⟩ = some (.int .i32 0) ∧ W.cell? ⟨b, off + 4 + 1, none⟩ = some (.string ⟨d1.s.toArray⟩)) (by kernel_rfl) (by exact ⟨y0, y1, y2, y3, y4, c1⟩) (fun hHeld => ?_)
    refine takeL (i := 0) (v := ?_) rfl (by kernel_rfl) (by kernel_rfl) (by kernel_rfl) (by kernel_rfl) (by kernel_rfl) (by decide) (fun _ _ _ h => h) (Or.inl ⟨by kernel_rfl, ?_⟩) hHeld ?_
    rotate_left
    · (intro w' hSw; (try dsimp only at hSw); obtain ⟨hS0, hS1, hS2, hS3, hS4, hS5⟩ := hSw; go_simp; try with_reducible rfl)
    simp only [Act.put, List.setIfInBounds_toArray, List.set_cons_zero, List.set_cons_succ, List.getElem_toArray, List.getElem_cons_succ, List.getElem_cons_zero]
    refine takeL (i := 1) (v := ?_) rfl (by kernel_rfl) (by kernel_rfl) (by kernel_rfl) (by kernel_rfl) (by kernel_rfl) (by decide) (fun _ _ _ h => h) (Or.inl ⟨by kernel_rfl, ?_⟩) hHeld ?_
    rotate_left
    · (intro w' hSw; (try dsimp only at hSw); obtain ⟨hS0, hS1, hS2, hS3, hS4, hS5⟩ := hSw; go_simp; try with_reducible rfl)
    simp only [Act.put, List.setIfInBounds_toArray, List.set_cons_zero, List.set_cons_succ, List.getElem_toArray, List.getElem_cons_succ, List.getElem_cons_zero]
    refine takeL (i := 2) (v := ?_) rfl (by kernel_rfl) (by kernel_rfl) (by kernel_rfl) (by kernel_rfl) (by kernel_rfl) (by decide) (fun _ _ _ h => h) (Or.inl ⟨by kernel_rfl, ?_⟩) hHeld ?_
    rotate_left
    · (intro w' hSw; (try dsimp only at hSw); obtain ⟨hS0, hS1, hS2, hS3, hS4, hS5⟩ := hSw; go_simp; try with_reducible rfl)
    simp only [Act.put, List.setIfInBounds_toArray, List.set_cons_zero, List.set_cons_succ, List.getElem_toArray, List.getElem_cons_succ, List.getElem_cons_zero]
    refine takeL (i := 3) (v := ?_) rfl (by kernel_rfl) (by kernel_rfl) (by kernel_rfl) (by kernel_rfl) (by kernel_rfl) (by decide) (fun _ _ _ h => h) (Or.inl ⟨by kernel_rfl, ?_⟩) hHeld ?_
    rotate_left
    · (intro w' hSw; (try dsimp only at hSw); obtain ⟨hS0, hS1, hS2, hS3, hS4, hS5⟩ := hSw; go_simp; try with_reducible rfl)
    simp only [Act.put, List.setIfInBounds_toArray, List.set_cons_zero, List.set_cons_succ, List.getElem_toArray, List.getElem_cons_succ, List.getElem_cons_zero]
    refine takeL (i := 4) (v := ?_) rfl (by kernel_rfl) (by kernel_rfl) (by kernel_rfl) (by kernel_rfl) (by kernel_rfl) (by decide) (fun _ _ _ h => h) (Or.inl ⟨by kernel_rfl, ?_⟩) hHeld ?_
    rotate_left
    · (intro w' hSw; (try dsimp only at hSw); obtain ⟨hS0, hS1, hS2, hS3, hS4, hS5⟩ := hSw; go_simp; try with_reducible rfl)
    simp only [Act.put, List.setIfInBounds_toArray, List.set_cons_zero, List.set_cons_succ, List.getElem_toArray, List.getElem_cons_succ, List.getElem_cons_zero]
    refine takeL (i := 5) (v := ?_) rfl (by kernel_rfl) (by kernel_rfl) (by kernel_rfl) (by kernel_rfl) (by kernel_rfl) (by decide) (fun _ _ _ h => h) (Or.inl ⟨by kernel_rfl, ?_⟩) hHeld ?_
    rotate_left
    · (intro w' hSw; (try dsimp only at hSw); obtain ⟨hS0, hS1, hS2, hS3, hS4, hS5⟩ := hSw; go_simp; try with_reducible rfl)
    simp only [Act.put, List.setIfInBounds_toArray, List.set_cons_zero, List.set_cons_succ, List.getElem_toArray, List.getElem_cons_succ, List.getElem_cons_zero]
    refine takeL (i := 6) (v := ?_) rfl (by kernel_rfl) (by kernel_rfl) (by kernel_rfl) (by kernel_rfl) (by kernel_rfl) (by decide) (fun _ _ _ h => h) (Or.inl ⟨by kernel_rfl, ?_⟩) hHeld ?_
    rotate_left
    · (intro w' hSw; (try dsimp only at hSw); obtain ⟨hS0, hS1, hS2, hS3, hS4, hS5⟩ := hSw; go_simp; try with_reducible rfl)
    simp only [Act.put, List.setIfInBounds_toArray, List.set_cons_zero, List.set_cons_succ, List.getElem_toArray, List.getElem_cons_succ, List.getElem_cons_zero]
    obtain ⟨⟨z0, z1, z2, z3, z4, z5, z6, z7, z8, z9⟩, hf⟩ := nil_cells J.out.1
    obtain ⟨f0, f1, f2, f3, f4, f5, f6, f7, f8, f9⟩ := ten hf
    clear hf
    refine readyL (rs := [7]) (by kernel_rfl) (by simp) (ReadyL.last rfl (fun K hK => ?_))
    go_simp
    refine hK.out _ _ ?_
    clear hK K
    (try simp only [Act.put, List.setIfInBounds_toArray, List.set_cons_zero, List.set_cons_succ, List.getElem_toArray, List.getElem_cons_succ, List.getElem_cons_zero])
    refine doneL (by kernel_rfl) ?_ _
    go_wp2_with fail
    exact item_retd (⟨2, d1.s, ⟨op, 0, 0, 0, 0⟩, 0, [], 0⟩) rfl rfl rfl J.out.1 (by rw [← hB]; exact J.out.2) hB
  obtain rfl : R = Pl.bad 3 := by rw [← HQ.out, if_pos ⟨hkn, hkw⟩]
  have hk1 : ¬ K.map UInt8.ofNat = ([119, 110] : List Nat).map UInt8.ofNat := fun h => hkn ((kt_eq K _ HKK.out (by decide)).1 h)
  change ¬ K.map UInt8.ofNat = [119, 110] at hk1
  have hk2 : ¬ K.map UInt8.ofNat = ([119, 119] : List Nat).map UInt8.ofNat := fun h => hkw ((kt_eq K _ HKK.out (by decide)).1 h)
  change ¬ K.map UInt8.ofNat = [119, 119] at hk2
  obtain ⟨KT, hKT⟩ : ∃ T, K.map UInt8.ofNat = T := ⟨_, rfl⟩
  rw [hKT] at hk1 hk2 ⊢
  have ek1 : (KT == [119, 110]) = false := beq_eq_false_iff_ne.2 hk1
  have ek2 : (KT == [119, 119]) = false := beq_eq_false_iff_ne.2 hk2
  clear hKT hkn hkw
  go_wp2_with fail
  refine (HS.out.2.1 _).mono ?_
  rintro y w2 ⟨rfl, rfl⟩
  go_wp2_with fail
  refine (HS.out.2.2 _).mono ?_
  rintro y w2 ⟨rfl, rfl⟩
  go_wp2_with fail
  refine (rbad_any 3 _).mono ?_
  rintro y wb ⟨v, rfl, rfl, hb9⟩
  rw [itV_eq]
  have hz9 := (hb9.block B (blk_lt H1.out.1)).trans H1.out.1
  have HB9 := Lib.hid (And.intro hz9 (H1.out.2.trans (hb9.mono H1.out.2.size)))
  clear hz9 hb9
  obtain ⟨⟨z0, z1, z2, z3, z4, z5, z6, z7, z8, z9⟩, hf⟩ := nil_cells HB9.out.1
  obtain ⟨f0, f1, f2, f3, f4, f5, f6, f7, f8, f9⟩ := ten hf
  clear hf
  go_wp2_with fail
  exact item_ret (Pl.bad 3) rfl rfl rfl HB9.out.1 (by rw [← hB]; exact HB9.out.2) hB
end Go.Proofs.YtmmnkoeajdeldaaGreatDoor
