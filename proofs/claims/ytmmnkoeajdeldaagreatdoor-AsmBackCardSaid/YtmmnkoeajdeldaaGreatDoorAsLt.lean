/- asm.List. -/
import Derived.Test.YtmmnkoeajdeldaaGreatDoorAsLi
import Derived.Test.YtmmnkoeajdeldaaGreatDoorFmtU
import Derived.Test.YtmmnkoeajdeldaaGreatDoorShelf
import Derived.Test.YtmmnkoeajdeldaaGreatDoorIsaT
import Derived.Test.YtmmnkoeajdeldaaGreatDoorIsaD
import Derived.Test.YtmmnkoeajdeldaaGreatDoorAsLaid
namespace Go.Proofs.YtmmnkoeajdeldaaGreatDoor
open Go.RowKit
set_option linter.unusedVariables false
set_option linter.unusedSimpArgs false
attribute [local go_sem] ba_get ba_cut ba_add
theorem decX_ok {y : Nat} (h : Pl.decOk y = true) : Pl.InsOk (Pl.decX y) := by
  have hd := Pl.decOk_iff h
  have ho := Pl.enc_op hd.1
  have hp := Pl.enc_parts hd.1
  exact ⟨by omega, by omega, by omega, by omega, by omega, by omega⟩
theorem linesE_app (en : Nat) : ∀ (a b : List Nat) (i : Nat), Pl.linesE en i (a ++ b) = Pl.linesE en i a ++ Pl.linesE en (i + a.length) b
  | [], b, i => by simp [Pl.linesE]
  | w :: a, b, i => by
    show Pl.lineE en i w ++ Pl.linesE en (i + 1) (a ++ b) = _
    rw [linesE_app en a b, ← List.append_assoc]
    show _ = (Pl.lineE en i w ++ Pl.linesE en (i + 1) a) ++ Pl.linesE en (i + (a.length + 1)) b
    rw [show i + 1 + a.length = i + (a.length + 1) by omega]
/-- The text of the first k words. -/
def txK (en : Nat) (t : List Nat) (k : Nat) : List UInt8 := Pl.joinN (Pl.linesE en 0 (t.take k))
theorem txK_succ (en : Nat) (t : List Nat) (k : Nat) (h : k < t.length) : txK en t (k + 1) = txK en t k ++ ((if en ≠ 0 ∧ en / 4 = k then Pl.startT ++ [10] else []) ++ (Pl.lineW t[k] ++ [10])) := by
  unfold txK
  rw [List.take_succ_eq_append_getElem h, linesE_app, Pl.joinN_app, List.length_take, Nat.zero_add, Nat.min_eq_left (by omega)]
  congr 1
  show Pl.joinN (Pl.lineE en k t[k] ++ []) = _
  rw [List.append_nil]
  unfold Pl.lineE
  split
  · simp [Pl.joinN]
  · simp [Pl.joinN]
theorem txK_len (en : Nat) (t : List Nat) (k : Nat) (hw : ∀ y ∈ t, y < 4294967296) (hk : k ≤ 150) : (txK en t k).length ≤ 30300 := by
  have h := Pl.linesE_ok en (t.take k) 0 fun y hy => hw y (List.mem_of_mem_take hy)
  have h1 := Pl.joinN_le (N := 100) fun s hs => (h.1 s hs).2
  have h2 := h.2
  rw [List.length_take] at h2
  have h3 : min k t.length ≤ 150 := by omega
  unfold txK
  have := Nat.mul_le_mul_left 101 (Nat.le_trans h2 (Nat.mul_le_mul_left 2 h3))
  omega
/-- A program's four cells. -/
structure ExAt (w : World) (B : Nat) (A : Option Addr) (n c : Nat) (d : List UInt8) (ro : Int) (en : Nat) : Prop where
  c0 : w.cell? ⟨B, 0, none⟩ = some (.slice A n c)
  c1 : w.cell? ⟨B, 1, none⟩ = some (.string ⟨d.toArray⟩)
  c2 : w.cell? ⟨B, 2, none⟩ = some (.int .i64 ro)
  c3 : w.cell? ⟨B, 3, none⟩ = some (.int .u32 (en : Int))
theorem ExAt.below {w w' : World} {B : Nat} {A : Option Addr} {n c : Nat} {d : List UInt8} {ro : Int} {en : Nat} (h : ExAt w B A n c d ro en) {M : Nat} (hb : Below M w w') (hB : B < M) : ExAt w' B A n c d ro en :=
  ⟨(hb.cell (p := ⟨_, 0, none⟩) hB).trans h.c0, (hb.cell (p := ⟨_, 1, none⟩) hB).trans h.c1, (hb.cell (p := ⟨_, 2, none⟩) hB).trans h.c2, (hb.cell (p := ⟨_, 3, none⟩) hB).trans h.c3⟩
theorem ExAt.drew {w : World} {B : Nat} {A : Option Addr} {n c : Nat} {d : List UInt8} {ro : Int} {en : Nat} (h : ExAt w B A n c d ro en) : ExAt w.drew B A n c d ro en := ⟨h.c0, h.c1, h.c2, h.c3⟩
set_option maxRecDepth 100000 in
set_option maxHeartbeats 4000000 in
theorem list_any (A : Option Addr) (c : Nat) (X : Pl.Exe) (w : World) (h : XeOk X) (hr : Rd w 1 A X.text.length (w32s X.text)) (hv : VLaw w) : Calls Tryz.prog 16 #[xeV A c X] w (RetB (fun v _ => v = .string ⟨(Pl.listT X).toArray⟩) w) := by
  have hli := fun W => listed_any A c X W h
  obtain ⟨Lb, hLb⟩ : ∃ b, Pl.listB X = b := ⟨_, rfl⟩
  obtain ⟨R, hR⟩ : ∃ R, Pl.listT X = R := ⟨_, rfl⟩
  rw [hLb] at hli
  rw [hR]
  have HX := Lib.hid (And.intro hR (And.intro hLb (And.intro h.w (And.intro hr hv))))
  clear hR hr hv
  obtain ⟨t, d, ro, en⟩ := X
  obtain ⟨h1, h2, h3, h4, h5, -⟩ := h
  unfold xeV at hli ⊢
  dsimp only at h1 h2 h3 h4 h5 hli ⊢
  have hup := fun W => up4_any d.length (d.length : Int) rfl W (by omega)
  have hp3 : Pl.up d.length 4 = d.length + Pl.padN d.length ∧ Pl.padN d.length ≤ 3 := by unfold Pl.padN Pl.up; omega
  obtain ⟨p, hp⟩ : ∃ p, Pl.padN d.length = p := ⟨_, rfl⟩
  rw [hp] at hli hp3
  rw [hp3.1] at hup
  have hsub : IntKind.i64.wrap (((d.length + p : Nat) : Int) - (d.length : Int)) = (p : Int) := by rw [IntKind.wrap_i64]; omega
  obtain ⟨n, hn⟩ : ∃ n, t.length = n := ⟨_, rfl⟩
  rw [hn] at h1 hli ⊢
  have HN := Lib.hid (And.intro hn hp)
  have HU := Lib.hid (And.intro hup hli)
  clear hup hli hn
  obtain ⟨du, hdu⟩ : ∃ z, d.length + p = z := ⟨_, rfl⟩
  rw [hdu] at HU hsub
  go_enter Tryz.func16, Tryz.ntmps16
  go_upto_region 1 with (fail)
  obtain ⟨B, hB⟩ : ∃ B, w.heap.size = B := ⟨_, rfl⟩
  obtain ⟨w1, hw1⟩ : ∃ V, w.alloc (.cells #[.slice A n c, .string ⟨d.toArray⟩, .int .i64 ro, .int .u32 (en : Int)] 26) = V := ⟨_, rfl⟩
  have hz1 : w1.heap[B]? = some (.cells #[.slice A n c, .string ⟨d.toArray⟩, .int .i64 ro, .int .u32 (en : Int)] 26 (0, 0)) := by rw [← hw1, ← hB]; exact heap_alloc_new _ _
  have hb1 : Below w.heap.size w w1 := by rw [← hw1]; exact (Below.refl _ _).alloc (Nat.le_refl _) _
  rw [hw1, hB]
  have hB1 : B < w1.heap.size := blk_lt hz1
  obtain ⟨x0, x1, x2, x3⟩ := xeA_cells hz1
  have hS1 : ExAt w1 B A n c d ro en := ⟨x0, x1, x2, x3⟩
  have H1 := Lib.hid (And.intro hS1 (And.intro hb1 hB1))
  clear hw1 hz1 hb1 hB1 hS1 x0 x1 x2 x3
  refine wp_region_held_drew (S := (fun w' => ExAt w' B A n c d ro en)) (by kernel_rfl) (by exact H1.out.1.drew) (fun hHeld => ?_)
  refine wpAnyH_take (i := 0) (v := ?_) rfl (by kernel_rfl) (by kernel_rfl) (by kernel_rfl) (fun _ _ _ h => h) (Or.inl ⟨by kernel_rfl, ?_⟩) hHeld ?_
  rotate_left
  · (intro w' hSw; obtain ⟨hS0, hS1, hS2, hS3⟩ := hSw; go_simp; try with_reducible rfl)
  simp only [Act.put, List.setIfInBounds_toArray, List.set_cons_zero, List.set_cons_succ, List.getElem_toArray, List.getElem_cons_succ, List.getElem_cons_zero]
  refine wpAnyH_take (i := 1) (v := ?_) rfl (by kernel_rfl) (by kernel_rfl) (by kernel_rfl) (fun _ _ _ h => h) (Or.inl ⟨by kernel_rfl, ?_⟩) hHeld ?_
  rotate_left
  · (intro w' hSw; obtain ⟨hS0, hS1, hS2, hS3⟩ := hSw; go_simp; try with_reducible rfl)
  simp only [Act.put, List.setIfInBounds_toArray, List.set_cons_zero, List.set_cons_succ, List.getElem_toArray, List.getElem_cons_succ, List.getElem_cons_zero]
  refine wpAnyH_take (i := 2) (v := ?_) rfl (by kernel_rfl) (by kernel_rfl) (by kernel_rfl) (fun _ _ _ h => h) (Or.inl ⟨by kernel_rfl, ?_⟩) hHeld ?_
  rotate_left
  · (intro w' hSw; obtain ⟨hS0, hS1, hS2, hS3⟩ := hSw; go_simp; try with_reducible rfl)
  simp only [Act.put, List.setIfInBounds_toArray, List.set_cons_zero, List.set_cons_succ, List.getElem_toArray, List.getElem_cons_succ, List.getElem_cons_zero]
  refine wpAnyH_take (i := 4) (v := ?_) rfl (by kernel_rfl) (by kernel_rfl) (by kernel_rfl) (fun _ _ _ h => h) (Or.inl ⟨by kernel_rfl, ?_⟩) hHeld ?_
  rotate_left
  · (intro w' hSw; obtain ⟨hS0, hS1, hS2, hS3⟩ := hSw; go_simp; try with_reducible rfl)
  simp only [Act.put, List.setIfInBounds_toArray, List.set_cons_zero, List.set_cons_succ, List.getElem_toArray, List.getElem_cons_succ, List.getElem_cons_zero]
  refine wpAnyH_take (i := 5) (v := ?_) rfl (by kernel_rfl) (by kernel_rfl) (by kernel_rfl) (fun _ _ _ h => h) (Or.inl ⟨by kernel_rfl, ?_⟩) hHeld ?_
  rotate_left
  · (intro w' hSw; obtain ⟨hS0, hS1, hS2, hS3⟩ := hSw; go_simp; try with_reducible rfl)
  simp only [Act.put, List.setIfInBounds_toArray, List.set_cons_zero, List.set_cons_succ, List.getElem_toArray, List.getElem_cons_succ, List.getElem_cons_zero]
  refine wpAnyH_take (i := 6) (v := ?_) rfl (by kernel_rfl) (by kernel_rfl) (by kernel_rfl) (fun _ _ _ h => h) (Or.inl ⟨by kernel_rfl, ?_⟩) hHeld ?_
  rotate_left
  · (intro w' hSw; obtain ⟨hS0, hS1, hS2, hS3⟩ := hSw; go_simp; try with_reducible rfl)
  simp only [Act.put, List.setIfInBounds_toArray, List.set_cons_zero, List.set_cons_succ, List.getElem_toArray, List.getElem_cons_succ, List.getElem_cons_zero]
  refine wpAnyH_ready (rs := [3]) (by kernel_rfl) (by simp) (AllReadyH.cons rfl (fun K hK => ?_) AllReadyH.nil)
  go_simp
  refine (HU.out.1 _).mono ?_
  rintro y w2 ⟨rfl, rfl⟩
  refine hK.out _ _ (by exact H1.out.1.drew) (fun hHeld => ?_)
  clear hK K
  (try simp only [Act.put, List.setIfInBounds_toArray, List.set_cons_zero, List.set_cons_succ, List.getElem_toArray, List.getElem_cons_succ, List.getElem_cons_zero])
  refine wpAnyH_take (i := 7) (v := ?_) rfl (by kernel_rfl) (by kernel_rfl) (by kernel_rfl) (fun _ _ _ h => h) (Or.inl ⟨by kernel_rfl, ?_⟩) hHeld ?_
  rotate_left
  · (intro w' hSw; obtain ⟨hS0, hS1, hS2, hS3⟩ := hSw; go_simp; try with_reducible rfl)
  simp only [Act.put, List.setIfInBounds_toArray, List.set_cons_zero, List.set_cons_succ, List.getElem_toArray, List.getElem_cons_succ, List.getElem_cons_zero]
  refine wpAnyH_take (i := 8) (v := ?_) rfl (by kernel_rfl) (by kernel_rfl) (by kernel_rfl) (fun _ _ _ h => h) (Or.inl ⟨by kernel_rfl, ?_⟩) hHeld ?_
  rotate_left
  · (intro w' hSw; obtain ⟨hS0, hS1, hS2, hS3⟩ := hSw; go_simp; try with_reducible rfl)
  simp only [Act.put, List.setIfInBounds_toArray, List.set_cons_zero, List.set_cons_succ, List.getElem_toArray, List.getElem_cons_succ, List.getElem_cons_zero]
  refine wpAnyH_done (by kernel_rfl) ?_ _
  obtain ⟨x0, x1, x2, x3⟩ := H1.out.1.drew
  go_wp2_with fail
  refine (HU.out.2 _).mono ?_
  rintro y w3 ⟨v, rfl, rfl, hb3⟩
  have hb13 : Below w1.heap.size w1 w3 := ((Below.refl w1.heap.size w1).drew).trans hb3
  have hw3 : Below w.heap.size w w3 := H1.out.2.1.trans (hb13.mono H1.out.2.1.size)
  have hS3 := H1.out.1.below hb13 H1.out.2.2
  have hB3 : B < w3.heap.size := Nat.lt_of_lt_of_le H1.out.2.2 hb13.size
  have H3 := Lib.hid (And.intro hS3 (And.intro hw3 hB3))
  clear x0 x1 x2 x3 hb3 hb13 hS3 hw3 hB3 hHeld
  cases Lb with
  | false =>
    go_wp2_with fail
    go_ret
    refine ⟨_, rfl, ?_, H3.out.2.1⟩
    rw [← HX.out.1]
    unfold Pl.listT
    rw [HX.out.2.1]
    rfl
  | true =>
    have hlb : 0 ≤ ro ∧ ro ≤ 65536 ∧ n ≤ 150 ∧ d.length ≤ 8000 ∧ (0 < ro → (p : Int) ≤ ro) ∧ (en = 0 ∨ en % 4 = 0 ∧ en / 4 < n) := by
      have h0 := of_decide_eq_true HX.out.2.1
      dsimp only at h0
      rw [HN.out.1, HN.out.2] at h0
      exact h0
    obtain ⟨l1, l2, l3, l4, l5, l6⟩ := hlb
    go_upto_region 5 with (fail)
    obtain ⟨b, hb⟩ : ∃ b, w3.heap.size = b := ⟨_, rfl⟩
    have hbn := bld_new w3.heap.size w3 (Nat.le_refl _)
    obtain ⟨w4, hw4⟩ : ∃ V, w3.alloc (.cells #[.pointer none, .slice none 0 0] 94) = V := ⟨_, rfl⟩
    have hb4 : Below w3.heap.size w3 w4 := by rw [← hw4]; exact (Below.refl _ _).alloc (Nat.le_refl _) _
    have hsz4 : b < w4.heap.size := by rw [← hw4, ← hb]; simp
    rw [hw4, hb] at hbn
    rw [hw4, hb]
    rw [hb] at hb4
    have hS4 := H3.out.1.below hb4 (by rw [← hb]; exact H3.out.2.2)
    have hBb : B < b := by rw [← hb]; exact H3.out.2.2
    have hwb : w.heap.size ≤ b := by rw [← hb]; exact H3.out.2.1.size
    have hw4' : Below w.heap.size w w4 := H3.out.2.1.trans (hb4.mono hwb)
    have H4 := Lib.hid (And.intro hbn (And.intro hS4 (And.intro hBb (And.intro hwb (And.intro hw4' hsz4)))))
    obtain ⟨x0, x1, x2, x3⟩ := hS4
    clear hw4 hb hbn hb4 hsz4 hBb hwb hw4'
    go_wp2_with fail
    clear x0 x1 x2 x3
    go_loopw [25] (fun i wr => ∃ (k : Nat), k ≤ n ∧ i = .int .i64 (k : Int) ∧ Hid (Bld b b (txK en t k) wr ∧ Below b w4 wr)) (fun i _ => n - (intOf i).toNat)
    case atStart => exact ⟨0, by omega, rfl, Lib.hid ⟨H4.out.1, Below.refl _ _⟩⟩
    case round =>
      obtain ⟨k, hk, rfl, HB⟩ := hrel
      have hwr : Below w.heap.size w wr := H4.out.2.2.2.2.1.trans (HB.out.2.mono H4.out.2.2.2.1)
      have hbs : b ≤ wr.heap.size := Nat.le_trans (Nat.le_of_lt H4.out.2.2.2.2.2) HB.out.2.size
      have hvr := HX.out.2.2.2.2.below hwr
      by_cases hkn : k < n
      · have hkl : k < t.length := by rw [HN.out.1]; exact hkn
        have hrk := HX.out.2.2.2.1.below hwr
        try dsimp only at hrk
        obtain ⟨bb, off, hAe, hbl, hcell⟩ := hrk.at1 (by rw [HN.out.1]; exact hkn)
        subst hAe
        have hc2 : (w32s t)[k]? = some (.int .u32 (t[k] : Int)) := w32_at t k hkl
        rw [hc2] at hcell
        have hy0 := HX.out.2.2.1 t[k] (List.getElem_mem hkl)
        have hsn := txK_succ en t k hkl
        have hlen := txK_len en t k HX.out.2.2.1 (by omega)
        obtain ⟨y, hy⟩ : ∃ y, t[k] = y := ⟨_, rfl⟩
        rw [hy] at hcell hsn hy0
        have hlw := (Pl.lineW_ok y hy0).2
        have hbld := HB.out.1
        obtain ⟨Xk, hXk⟩ : ∃ z, txK en t k = z := ⟨_, rfl⟩
        rw [hXk] at hsn hbld hlen
        obtain ⟨x0, x1, x2, x3⟩ := H4.out.2.1.below HB.out.2 H4.out.2.2.1
        have HY := Lib.hid (And.intro hsn (And.intro hbld (And.intro hvr (And.intro hbs hlw))))
        have hd := fun W => dec_any y W hy0
        unfold decV at hd
        clear hc2 hy hXk hsn hbld hrk hvr hbs hwr x2
        by_cases hst : en ≠ 0 ∧ en / 4 = k
        · have g1 : ((en : Int) != 0) = true := by simp; omega
          have g2 : ((en : Int) / 4 == (k : Int)) = true := by rw [beq_iff_eq]; omega
          go_wp2_with fail
          refine (bld_writeString b b Xk [115, 116, 97, 114, 116, 58, 10] wr HY.out.2.1 (by simp; omega) HY.out.2.2.2.1).mono ?_
          rintro e wa ⟨rfl, hbld2, hba, -⟩
          have hba2 : Below b w4 wa := HB.out.2.trans hba
          have HA := Lib.hid (And.intro hbld2 (And.intro hba2 (show txK en t (k + 1) = (Xk ++ [115, 116, 97, 114, 116, 58, 10]) ++ (Pl.lineW y ++ [10]) by rw [HY.out.1, if_pos hst]; simp [Pl.startT, Pl.wStart])))
          obtain ⟨Xa, hXa⟩ : ∃ z, Xk ++ [115, 116, 97, 114, 116, 58, 10] = z := ⟨_, rfl⟩
          rw [hXa] at HA
          have hla : Xa.length ≤ 30310 := by rw [← hXa]; simp; omega
          clear hbld2 hba hba2 hXa x0 x1 x3
          have hva : VLaw wa := HX.out.2.2.2.2.below (H4.out.2.2.2.2.1.trans (HA.out.2.1.mono H4.out.2.2.2.1))
          have hbs2 : b ≤ wa.heap.size := Nat.le_trans (Nat.le_of_lt H4.out.2.2.2.2.2) HA.out.2.1.size
          cases hok : Pl.decOk y with
          | true =>
            have hio := decX_ok hok
            have hT : Pl.lineW y = Pl.textI (Pl.decX y) := by unfold Pl.lineW; rw [if_pos hok]
            rw [hok] at hd
            have hlw := HY.out.2.2.2.2
            rw [hT] at hlw HA
            simp only [if_true] at hd
            obtain ⟨x, hx⟩ : ∃ x, Pl.decX y = x := ⟨_, rfl⟩
            rw [hx] at hd hio hlw HA
            have hte := fun W hO hT => itext_any x W hio hO hT
            obtain ⟨T, hTT⟩ : ∃ T, Pl.textI x = T := ⟨_, rfl⟩
            rw [hTT] at hlw HA hte
            obtain ⟨op, xa, xb, xc, imm⟩ := x
            unfold insV at hd hte
            simp only at hd hte
            have HD := Lib.hid hd
            have HT := Lib.hid hte
            have HVA := Lib.hid (And.intro hva hbs2)
            clear hd hte hio hx hTT hT hok hva hbs2
            go_wp2_with fail
            refine (fmtU_any y (by omega) _ HVA.out.1.num.tab).mono ?_
            rintro e wb ⟨v, rfl, rfl, hbb⟩
            have hyl := (Pl.itoa_len (v := (y : Int)) ⟨by omega, by omega⟩).2
            obtain ⟨iy, hiy⟩ : ∃ z, Lib.itoa (y : Int) = z := ⟨_, rfl⟩
            rw [hiy] at hyl ⊢
            have HBB := Lib.hid hbb
            clear hbb
            go_wp2_with fail
            refine (HD.out _).mono ?_
            rintro e wc ⟨v, rfl, rfl, hbc⟩
            have HBC := Lib.hid (HBB.out.trans (hbc.mono HBB.out.size))
            clear hbc
            go_wp2_with fail
            obtain ⟨wd, hwd⟩ : ∃ V, wc.alloc (.cells #[.int .u8 (op : Int), .int .u8 (xa : Int), .int .u8 (xb : Int), .int .u8 (xc : Int), .int .i32 imm] 33) = V := ⟨_, rfl⟩
            have hbd : Below wc.heap.size wc wd := by rw [← hwd]; exact (Below.refl _ _).alloc (Nat.le_refl _) _
            have HBD := Lib.hid (HBC.out.trans (hbd.mono HBC.out.size))
            rw [hwd]
            clear hwd hbd
            refine (HT.out _ (HVA.out.1.below HBD.out).asm.ops (HVA.out.1.below HBD.out).num.tab).mono ?_
            rintro e we ⟨v, rfl, rfl, hbe⟩
            have HBE := Lib.hid (HBD.out.trans (hbe.mono HBD.out.size))
            clear hbe
            go_wp2_with fail
            refine (bld_writeString b b Xa (T ++ [10]) we (HA.out.1.below HBE.out) (by simp; omega) (Nat.le_trans HVA.out.2 HBE.out.size)).mono ?_
            rintro e wf ⟨rfl, hbld3, hbf, -⟩
            have HF := Lib.hid (And.intro hbld3 (HA.out.2.1.trans ((HBE.out.mono HVA.out.2).trans hbf)))
            clear hbld3 hbf
            go_wp2_with fail
            exact ⟨⟨k + 1, by omega, ret_i (by omega), Lib.hid ⟨by rw [HA.out.2.2]; exact HF.out.1, HF.out.2⟩⟩, by simp only [intOf]; omega⟩
          | false =>
            have hT : Pl.lineW y = [114, 97, 119, 32] ++ Lib.itoa (y : Int) := by unfold Pl.lineW; rw [hok]; rfl
            rw [hok] at hd
            rw [hT] at HA
            simp only [Bool.false_eq_true, if_false] at hd
            have HD := Lib.hid hd
            have HVA := Lib.hid (And.intro hva hbs2)
            have hfu := fmtU_any y (by omega) wa hva.num.tab
            have hyl := (Pl.itoa_len (v := (y : Int)) ⟨by omega, by omega⟩).2
            obtain ⟨iy, hiy⟩ : ∃ z, Lib.itoa (y : Int) = z := ⟨_, rfl⟩
            rw [hiy] at hyl hfu HA
            have HFU := Lib.hid hfu
            clear hd hT hok hva hbs2 hfu hiy
            go_wp2_with fail
            refine HFU.out.mono ?_
            rintro e wb ⟨v, rfl, rfl, hbb⟩
            have HBB := Lib.hid hbb
            clear hbb
            go_wp2_with fail
            refine (HD.out _).mono ?_
            rintro e wc ⟨v, rfl, rfl, hbc⟩
            have HBC := Lib.hid (HBB.out.trans (hbc.mono HBB.out.size))
            clear hbc
            go_wp2_with fail
            obtain ⟨wd, hwd⟩ : ∃ V, wc.alloc (.cells #[.int .u8 0, .int .u8 0, .int .u8 0, .int .u8 0, .int .i32 0] 33) = V := ⟨_, rfl⟩
            have hbd : Below wc.heap.size wc wd := by rw [← hwd]; exact (Below.refl _ _).alloc (Nat.le_refl _) _
            have HBD := Lib.hid (HBC.out.trans (hbd.mono HBC.out.size))
            rw [hwd]
            clear hwd hbd
            refine (bld_writeString b b Xa (114 :: 97 :: 119 :: 32 :: (iy ++ [10])) wd (HA.out.1.below HBD.out) (by simp; omega) (Nat.le_trans HVA.out.2 HBD.out.size)).mono ?_
            rintro e wf ⟨rfl, hbld3, hbf, -⟩
            have HF := Lib.hid (And.intro hbld3 (HA.out.2.1.trans ((HBD.out.mono HVA.out.2).trans hbf)))
            clear hbld3 hbf
            go_wp2_with fail
            exact ⟨⟨k + 1, by omega, ret_i (by omega), Lib.hid ⟨by rw [HA.out.2.2]; exact HF.out.1, HF.out.2⟩⟩, by simp only [intOf]; omega⟩
        · have HA := Lib.hid (And.intro HY.out.2.1 (And.intro HB.out.2 (show txK en t (k + 1) = Xk ++ (Pl.lineW y ++ [10]) by rw [HY.out.1, if_neg hst]; simp)))
          have hla : Xk.length ≤ 30310 := by omega
          by_cases he0 : en = 0
          · have g1 : ((en : Int) != 0) = false := by simp; omega
            clear he0
            have hva : VLaw wr := HX.out.2.2.2.2.below (H4.out.2.2.2.2.1.trans (HA.out.2.1.mono H4.out.2.2.2.1))
            have hbs2 : b ≤ wr.heap.size := Nat.le_trans (Nat.le_of_lt H4.out.2.2.2.2.2) HA.out.2.1.size
            cases hok : Pl.decOk y with
            | true =>
              have hio := decX_ok hok
              have hT : Pl.lineW y = Pl.textI (Pl.decX y) := by unfold Pl.lineW; rw [if_pos hok]
              rw [hok] at hd
              have hlw := HY.out.2.2.2.2
              rw [hT] at hlw HA
              simp only [if_true] at hd
              obtain ⟨x, hx⟩ : ∃ x, Pl.decX y = x := ⟨_, rfl⟩
              rw [hx] at hd hio hlw HA
              have hte := fun W hO hT => itext_any x W hio hO hT
              obtain ⟨T, hTT⟩ : ∃ T, Pl.textI x = T := ⟨_, rfl⟩
              rw [hTT] at hlw HA hte
              obtain ⟨op, xa, xb, xc, imm⟩ := x
              unfold insV at hd hte
              simp only at hd hte
              have HD := Lib.hid hd
              have HT := Lib.hid hte
              have HVA := Lib.hid (And.intro hva hbs2)
              clear hd hte hio hx hTT hT hok hva hbs2
              go_wp2_with fail
              refine (fmtU_any y (by omega) _ HVA.out.1.num.tab).mono ?_
              rintro e wb ⟨v, rfl, rfl, hbb⟩
              have hyl := (Pl.itoa_len (v := (y : Int)) ⟨by omega, by omega⟩).2
              obtain ⟨iy, hiy⟩ : ∃ z, Lib.itoa (y : Int) = z := ⟨_, rfl⟩
              rw [hiy] at hyl ⊢
              have HBB := Lib.hid hbb
              clear hbb
              go_wp2_with fail
              refine (HD.out _).mono ?_
              rintro e wc ⟨v, rfl, rfl, hbc⟩
              have HBC := Lib.hid (HBB.out.trans (hbc.mono HBB.out.size))
              clear hbc
              go_wp2_with fail
              obtain ⟨wd, hwd⟩ : ∃ V, wc.alloc (.cells #[.int .u8 (op : Int), .int .u8 (xa : Int), .int .u8 (xb : Int), .int .u8 (xc : Int), .int .i32 imm] 33) = V := ⟨_, rfl⟩
              have hbd : Below wc.heap.size wc wd := by rw [← hwd]; exact (Below.refl _ _).alloc (Nat.le_refl _) _
              have HBD := Lib.hid (HBC.out.trans (hbd.mono HBC.out.size))
              rw [hwd]
              clear hwd hbd
              refine (HT.out _ (HVA.out.1.below HBD.out).asm.ops (HVA.out.1.below HBD.out).num.tab).mono ?_
              rintro e we ⟨v, rfl, rfl, hbe⟩
              have HBE := Lib.hid (HBD.out.trans (hbe.mono HBD.out.size))
              clear hbe
              go_wp2_with fail
              refine (bld_writeString b b Xk (T ++ [10]) we (HA.out.1.below HBE.out) (by simp; omega) (Nat.le_trans HVA.out.2 HBE.out.size)).mono ?_
              rintro e wf ⟨rfl, hbld3, hbf, -⟩
              have HF := Lib.hid (And.intro hbld3 (HA.out.2.1.trans ((HBE.out.mono HVA.out.2).trans hbf)))
              clear hbld3 hbf
              go_wp2_with fail
              exact ⟨⟨k + 1, by omega, ret_i (by omega), Lib.hid ⟨by rw [HA.out.2.2]; exact HF.out.1, HF.out.2⟩⟩, by simp only [intOf]; omega⟩
            | false =>
              have hT : Pl.lineW y = [114, 97, 119, 32] ++ Lib.itoa (y : Int) := by unfold Pl.lineW; rw [hok]; rfl
              rw [hok] at hd
              rw [hT] at HA
              simp only [Bool.false_eq_true, if_false] at hd
              have HD := Lib.hid hd
              have HVA := Lib.hid (And.intro hva hbs2)
              have hfu := fmtU_any y (by omega) wr hva.num.tab
              have hyl := (Pl.itoa_len (v := (y : Int)) ⟨by omega, by omega⟩).2
              obtain ⟨iy, hiy⟩ : ∃ z, Lib.itoa (y : Int) = z := ⟨_, rfl⟩
              rw [hiy] at hyl hfu HA
              have HFU := Lib.hid hfu
              clear hd hT hok hva hbs2 hfu hiy
              go_wp2_with fail
              refine HFU.out.mono ?_
              rintro e wb ⟨v, rfl, rfl, hbb⟩
              have HBB := Lib.hid hbb
              clear hbb
              go_wp2_with fail
              refine (HD.out _).mono ?_
              rintro e wc ⟨v, rfl, rfl, hbc⟩
              have HBC := Lib.hid (HBB.out.trans (hbc.mono HBB.out.size))
              clear hbc
              go_wp2_with fail
              obtain ⟨wd, hwd⟩ : ∃ V, wc.alloc (.cells #[.int .u8 0, .int .u8 0, .int .u8 0, .int .u8 0, .int .i32 0] 33) = V := ⟨_, rfl⟩
              have hbd : Below wc.heap.size wc wd := by rw [← hwd]; exact (Below.refl _ _).alloc (Nat.le_refl _) _
              have HBD := Lib.hid (HBC.out.trans (hbd.mono HBC.out.size))
              rw [hwd]
              clear hwd hbd
              refine (bld_writeString b b Xk (114 :: 97 :: 119 :: 32 :: (iy ++ [10])) wd (HA.out.1.below HBD.out) (by simp; omega) (Nat.le_trans HVA.out.2 HBD.out.size)).mono ?_
              rintro e wf ⟨rfl, hbld3, hbf, -⟩
              have HF := Lib.hid (And.intro hbld3 (HA.out.2.1.trans ((HBD.out.mono HVA.out.2).trans hbf)))
              clear hbld3 hbf
              go_wp2_with fail
              exact ⟨⟨k + 1, by omega, ret_i (by omega), Lib.hid ⟨by rw [HA.out.2.2]; exact HF.out.1, HF.out.2⟩⟩, by simp only [intOf]; omega⟩
          · have g1 : ((en : Int) != 0) = true := by simp; omega
            have g2 : ((en : Int) / 4 == (k : Int)) = false := by rw [beq_eq_false_iff_ne]; omega
            have hva : VLaw wr := HX.out.2.2.2.2.below (H4.out.2.2.2.2.1.trans (HA.out.2.1.mono H4.out.2.2.2.1))
            have hbs2 : b ≤ wr.heap.size := Nat.le_trans (Nat.le_of_lt H4.out.2.2.2.2.2) HA.out.2.1.size
            cases hok : Pl.decOk y with
            | true =>
              have hio := decX_ok hok
              have hT : Pl.lineW y = Pl.textI (Pl.decX y) := by unfold Pl.lineW; rw [if_pos hok]
              rw [hok] at hd
              have hlw := HY.out.2.2.2.2
              rw [hT] at hlw HA
              simp only [if_true] at hd
              obtain ⟨x, hx⟩ : ∃ x, Pl.decX y = x := ⟨_, rfl⟩
              rw [hx] at hd hio hlw HA
              have hte := fun W hO hT => itext_any x W hio hO hT
              obtain ⟨T, hTT⟩ : ∃ T, Pl.textI x = T := ⟨_, rfl⟩
              rw [hTT] at hlw HA hte
              obtain ⟨op, xa, xb, xc, imm⟩ := x
              unfold insV at hd hte
              simp only at hd hte
              have HD := Lib.hid hd
              have HT := Lib.hid hte
              have HVA := Lib.hid (And.intro hva hbs2)
              clear hd hte hio hx hTT hT hok hva hbs2
              go_wp2_with fail
              refine (fmtU_any y (by omega) _ HVA.out.1.num.tab).mono ?_
              rintro e wb ⟨v, rfl, rfl, hbb⟩
              have hyl := (Pl.itoa_len (v := (y : Int)) ⟨by omega, by omega⟩).2
              obtain ⟨iy, hiy⟩ : ∃ z, Lib.itoa (y : Int) = z := ⟨_, rfl⟩
              rw [hiy] at hyl ⊢
              have HBB := Lib.hid hbb
              clear hbb
              go_wp2_with fail
              refine (HD.out _).mono ?_
              rintro e wc ⟨v, rfl, rfl, hbc⟩
              have HBC := Lib.hid (HBB.out.trans (hbc.mono HBB.out.size))
              clear hbc
              go_wp2_with fail
              obtain ⟨wd, hwd⟩ : ∃ V, wc.alloc (.cells #[.int .u8 (op : Int), .int .u8 (xa : Int), .int .u8 (xb : Int), .int .u8 (xc : Int), .int .i32 imm] 33) = V := ⟨_, rfl⟩
              have hbd : Below wc.heap.size wc wd := by rw [← hwd]; exact (Below.refl _ _).alloc (Nat.le_refl _) _
              have HBD := Lib.hid (HBC.out.trans (hbd.mono HBC.out.size))
              rw [hwd]
              clear hwd hbd
              refine (HT.out _ (HVA.out.1.below HBD.out).asm.ops (HVA.out.1.below HBD.out).num.tab).mono ?_
              rintro e we ⟨v, rfl, rfl, hbe⟩
              have HBE := Lib.hid (HBD.out.trans (hbe.mono HBD.out.size))
              clear hbe
              go_wp2_with fail
              refine (bld_writeString b b Xk (T ++ [10]) we (HA.out.1.below HBE.out) (by simp; omega) (Nat.le_trans HVA.out.2 HBE.out.size)).mono ?_
              rintro e wf ⟨rfl, hbld3, hbf, -⟩
              have HF := Lib.hid (And.intro hbld3 (HA.out.2.1.trans ((HBE.out.mono HVA.out.2).trans hbf)))
              clear hbld3 hbf
              go_wp2_with fail
              exact ⟨⟨k + 1, by omega, ret_i (by omega), Lib.hid ⟨by rw [HA.out.2.2]; exact HF.out.1, HF.out.2⟩⟩, by simp only [intOf]; omega⟩
            | false =>
              have hT : Pl.lineW y = [114, 97, 119, 32] ++ Lib.itoa (y : Int) := by unfold Pl.lineW; rw [hok]; rfl
              rw [hok] at hd
              rw [hT] at HA
              simp only [Bool.false_eq_true, if_false] at hd
              have HD := Lib.hid hd
              have HVA := Lib.hid (And.intro hva hbs2)
              have hfu := fmtU_any y (by omega) wr hva.num.tab
              have hyl := (Pl.itoa_len (v := (y : Int)) ⟨by omega, by omega⟩).2
              obtain ⟨iy, hiy⟩ : ∃ z, Lib.itoa (y : Int) = z := ⟨_, rfl⟩
              rw [hiy] at hyl hfu HA
              have HFU := Lib.hid hfu
              clear hd hT hok hva hbs2 hfu hiy
              go_wp2_with fail
              refine HFU.out.mono ?_
              rintro e wb ⟨v, rfl, rfl, hbb⟩
              have HBB := Lib.hid hbb
              clear hbb
              go_wp2_with fail
              refine (HD.out _).mono ?_
              rintro e wc ⟨v, rfl, rfl, hbc⟩
              have HBC := Lib.hid (HBB.out.trans (hbc.mono HBB.out.size))
              clear hbc
              go_wp2_with fail
              obtain ⟨wd, hwd⟩ : ∃ V, wc.alloc (.cells #[.int .u8 0, .int .u8 0, .int .u8 0, .int .u8 0, .int .i32 0] 33) = V := ⟨_, rfl⟩
              have hbd : Below wc.heap.size wc wd := by rw [← hwd]; exact (Below.refl _ _).alloc (Nat.le_refl _) _
              have HBD := Lib.hid (HBC.out.trans (hbd.mono HBC.out.size))
              rw [hwd]
              clear hwd hbd
              refine (bld_writeString b b Xk (114 :: 97 :: 119 :: 32 :: (iy ++ [10])) wd (HA.out.1.below HBD.out) (by simp; omega) (Nat.le_trans HVA.out.2 HBD.out.size)).mono ?_
              rintro e wf ⟨rfl, hbld3, hbf, -⟩
              have HF := Lib.hid (And.intro hbld3 (HA.out.2.1.trans ((HBD.out.mono HVA.out.2).trans hbf)))
              clear hbld3 hbf
              go_wp2_with fail
              exact ⟨⟨k + 1, by omega, ret_i (by omega), Lib.hid ⟨by rw [HA.out.2.2]; exact HF.out.1, HF.out.2⟩⟩, by simp only [intOf]; omega⟩
      · have hkn2 : k = n := by omega
        have hlen := txK_len en t k HX.out.2.2.1 (by omega)
        have hbld := HB.out.1
        have hP : Pl.listT ⟨t, d, ro, en⟩ = txK en t k ++ ((if d = [] then [] else Pl.dataL d ++ [10]) ++ (if ro = 0 then [] else Pl.roomL (ro - (p : Int)) ++ [10])) := by
          unfold Pl.listT
          rw [HX.out.2.1, if_pos rfl]
          unfold Pl.linesX txK Pl.dataLs Pl.roomLs
          rw [List.take_of_length_le (by rw [HN.out.1]; omega), Pl.joinN_app, Pl.joinN_app]
          dsimp only
          rw [HN.out.2]
          congr 2
          · split <;> simp [Pl.joinN]
          · split <;> simp [Pl.joinN]
        rw [HX.out.1] at hP
        obtain ⟨Xk, hXk⟩ : ∃ z, txK en t k = z := ⟨_, rfl⟩
        rw [hXk] at hP hbld hlen
        obtain ⟨x0, x1, x2, x3⟩ := H4.out.2.1.below HB.out.2 H4.out.2.2.1
        have HP := Lib.hid (And.intro hP (And.intro hbld (And.intro hwr (And.intro hbs hvr))))
        clear hP hXk hbld hwr hbs hvr
        by_cases hd0 : d = []
        · have hdi : d.isEmpty = true := by rw [hd0]; rfl
          have HQ := Lib.hid (show (if d = [] then [] else Pl.dataL d ++ [10]) = ([] : List UInt8) from if_pos hd0)
          have HP2 := Lib.hid (And.intro HP.out.2.1 (And.intro HB.out.2 (And.intro HP.out.2.2.2.1 HP.out.2.2.2.2)))
          by_cases hr0 : ro = 0
          · have hri : (ro != 0) = false := by simp [hr0]
            have HR := Lib.hid (show (if ro = 0 then [] else Pl.roomL (ro - (p : Int)) ++ [10]) = ([] : List UInt8) from if_pos hr0)
            clear hr0
            go_wp2_with fail
            refine (bld_string b b Xk wr HP2.out.1 HP2.out.2.2.1).mono ?_
            rintro e wz ⟨rfl, -, hbz, -⟩
            have HZ := Lib.hid hbz
            clear hbz
            go_wp2_with fail
            have hfin : R = Xk := by rw [HP.out.1, HQ.out, HR.out]; simp
            go_ret
            refine ⟨_, rfl, ?_, H4.out.2.2.2.2.1.trans ((HP2.out.2.1.trans HZ.out).mono H4.out.2.2.2.1)⟩
            show Value.string _ = Value.string ⟨R.toArray⟩
            rw [hfin]
            try simp
          · have hri : (ro != 0) = true := by simp [hr0]
            have hpr : (p : Int) ≤ ro := l5 (by omega)
            have hsb : IntKind.i64.wrap (ro - (p : Int)) = ro - (p : Int) := IntWalk.i64_in _ (by omega)
            go_wp2_with fail
            refine (Tryz.strconv_Itoa (ro - (p : Int)) (by omega) (by omega) _ HP2.out.2.2.2.num.tab).mono ?_
            rintro e wi ⟨rfl, kk, os, hwi⟩
            have hbi : Below (wr).heap.size wr wi := by rw [hwi]; exact below_grow _ kk os
            have hil := (Pl.itoa_len (v := ro - (p : Int)) ⟨by omega, by omega⟩).2
            have hrr : (if ro = 0 then [] else Pl.roomL (ro - (p : Int)) ++ [10]) = (114 :: 111 :: 111 :: 109 :: 32 :: 114 :: 111 :: 111 :: 109 :: 32 :: (Lib.itoa (ro - (p : Int)) ++ [10])) := by rw [if_neg hr0]; simp [Pl.roomL, Pl.wRoom]
            obtain ⟨It, hIt⟩ : ∃ z, Lib.itoa (ro - (p : Int)) = z := ⟨_, rfl⟩
            rw [hIt] at hil hrr ⊢
            have HR := Lib.hid hrr
            have HBI := Lib.hid hbi
            clear hIt hrr hbi hwi
            go_wp2_with fail
            refine (bld_writeString b b (Xk) (114 :: 111 :: 111 :: 109 :: 32 :: 114 :: 111 :: 111 :: 109 :: 32 :: (It ++ [10])) wi (HP2.out.1.below HBI.out) (by simp; omega) (Nat.le_trans HP2.out.2.2.1 HBI.out.size)).mono ?_
            rintro e wj ⟨rfl, hbld3, hbj, -⟩
            have HJ := Lib.hid (And.intro hbld3 ((HBI.out.mono HP2.out.2.2.1).trans hbj))
            clear hbld3 hbj
            go_wp2_with fail
            refine (bld_string b b _ wj HJ.out.1 (Nat.le_trans HP2.out.2.2.1 HJ.out.2.size)).mono ?_
            rintro e wz ⟨rfl, -, hbz, -⟩
            have HZ := Lib.hid (HJ.out.2.trans hbz)
            clear hbz
            go_wp2_with fail
            have hfin : R = Xk ++ (114 :: 111 :: 111 :: 109 :: 32 :: 114 :: 111 :: 111 :: 109 :: 32 :: (It ++ [10])) := by rw [HP.out.1, HQ.out, HR.out]; simp
            go_ret
            refine ⟨_, rfl, ?_, H4.out.2.2.2.2.1.trans ((HP2.out.2.1.trans HZ.out).mono H4.out.2.2.2.1)⟩
            show Value.string _ = Value.string ⟨R.toArray⟩
            rw [hfin]
            try simp
        · have hdi : d.isEmpty = false := by cases d with
            | nil => exact absurd rfl hd0
            | cons a r => rfl
          go_wp2_with fail
          refine (quoted_any d (by omega) _).mono ?_
          rintro e wa ⟨v, rfl, rfl, hba⟩
          have hql : (Pl.quoT d).length ≤ 32010 := by have := (Pl.quoB_ok d).2; simp [Pl.quoT]; omega
          have hqd : (if d = [] then [] else Pl.dataL d ++ [10]) = (116 :: 101 :: 120 :: 116 :: 32 :: 100 :: 97 :: 116 :: 97 :: 32 :: (Pl.quoT d ++ [10])) := by rw [if_neg hd0]; simp [Pl.dataL, Pl.wText, Pl.wData]
          obtain ⟨Qt, hQt⟩ : ∃ z, Pl.quoT d = z := ⟨_, rfl⟩
          rw [hQt] at hql hqd ⊢
          have HQ := Lib.hid hqd
          have HBA := Lib.hid hba
          clear hQt hqd hba
          go_wp2_with fail
          refine (bld_writeString b b Xk (116 :: 101 :: 120 :: 116 :: 32 :: 100 :: 97 :: 116 :: 97 :: 32 :: (Qt ++ [10])) wa (HP.out.2.1.below HBA.out) (by simp; omega) (Nat.le_trans HP.out.2.2.2.1 HBA.out.size)).mono ?_
          rintro e wb ⟨rfl, hbld2, hbb, -⟩
          have hbb2 : Below b wr wb := (HBA.out.mono HP.out.2.2.2.1).trans hbb
          obtain ⟨y0, y1, y2, y3⟩ := H4.out.2.1.below (HB.out.2.trans hbb2) H4.out.2.2.1
          have hvb : VLaw wb := HX.out.2.2.2.2.below (H4.out.2.2.2.2.1.trans ((HB.out.2.trans hbb2).mono H4.out.2.2.2.1))
          have HP2 := Lib.hid (And.intro hbld2 (And.intro (HB.out.2.trans hbb2) (And.intro (Nat.le_trans HP.out.2.2.2.1 hbb2.size) hvb)))
          clear hbld2 hbb hbb2 hvb x0 x1 x2 x3
          by_cases hr0 : ro = 0
          · have hri : (ro != 0) = false := by simp [hr0]
            have HR := Lib.hid (show (if ro = 0 then [] else Pl.roomL (ro - (p : Int)) ++ [10]) = ([] : List UInt8) from if_pos hr0)
            clear hr0
            go_wp2_with fail
            refine (bld_string b b (Xk ++ (116 :: 101 :: 120 :: 116 :: 32 :: 100 :: 97 :: 116 :: 97 :: 32 :: (Qt ++ [10]))) wb HP2.out.1 HP2.out.2.2.1).mono ?_
            rintro e wz ⟨rfl, -, hbz, -⟩
            have HZ := Lib.hid hbz
            clear hbz
            go_wp2_with fail
            have hfin : R = (Xk ++ (116 :: 101 :: 120 :: 116 :: 32 :: 100 :: 97 :: 116 :: 97 :: 32 :: (Qt ++ [10]))) := by rw [HP.out.1, HQ.out, HR.out]; simp
            go_ret
            refine ⟨_, rfl, ?_, H4.out.2.2.2.2.1.trans ((HP2.out.2.1.trans HZ.out).mono H4.out.2.2.2.1)⟩
            show Value.string _ = Value.string ⟨R.toArray⟩
            rw [hfin]
            try simp
          · have hri : (ro != 0) = true := by simp [hr0]
            have hpr : (p : Int) ≤ ro := l5 (by omega)
            have hsb : IntKind.i64.wrap (ro - (p : Int)) = ro - (p : Int) := IntWalk.i64_in _ (by omega)
            go_wp2_with fail
            refine (Tryz.strconv_Itoa (ro - (p : Int)) (by omega) (by omega) _ HP2.out.2.2.2.num.tab).mono ?_
            rintro e wi ⟨rfl, kk, os, hwi⟩
            have hbi : Below (wb).heap.size wb wi := by rw [hwi]; exact below_grow _ kk os
            have hil := (Pl.itoa_len (v := ro - (p : Int)) ⟨by omega, by omega⟩).2
            have hrr : (if ro = 0 then [] else Pl.roomL (ro - (p : Int)) ++ [10]) = (114 :: 111 :: 111 :: 109 :: 32 :: 114 :: 111 :: 111 :: 109 :: 32 :: (Lib.itoa (ro - (p : Int)) ++ [10])) := by rw [if_neg hr0]; simp [Pl.roomL, Pl.wRoom]
            obtain ⟨It, hIt⟩ : ∃ z, Lib.itoa (ro - (p : Int)) = z := ⟨_, rfl⟩
            rw [hIt] at hil hrr ⊢
            have HR := Lib.hid hrr
            have HBI := Lib.hid hbi
            clear hIt hrr hbi hwi
            go_wp2_with fail
            refine (bld_writeString b b ((Xk ++ (116 :: 101 :: 120 :: 116 :: 32 :: 100 :: 97 :: 116 :: 97 :: 32 :: (Qt ++ [10])))) (114 :: 111 :: 111 :: 109 :: 32 :: 114 :: 111 :: 111 :: 109 :: 32 :: (It ++ [10])) wi (HP2.out.1.below HBI.out) (by simp; omega) (Nat.le_trans HP2.out.2.2.1 HBI.out.size)).mono ?_
            rintro e wj ⟨rfl, hbld3, hbj, -⟩
            have HJ := Lib.hid (And.intro hbld3 ((HBI.out.mono HP2.out.2.2.1).trans hbj))
            clear hbld3 hbj
            go_wp2_with fail
            refine (bld_string b b _ wj HJ.out.1 (Nat.le_trans HP2.out.2.2.1 HJ.out.2.size)).mono ?_
            rintro e wz ⟨rfl, -, hbz, -⟩
            have HZ := Lib.hid (HJ.out.2.trans hbz)
            clear hbz
            go_wp2_with fail
            have hfin : R = (Xk ++ (116 :: 101 :: 120 :: 116 :: 32 :: 100 :: 97 :: 116 :: 97 :: 32 :: (Qt ++ [10]))) ++ (114 :: 111 :: 111 :: 109 :: 32 :: 114 :: 111 :: 111 :: 109 :: 32 :: (It ++ [10])) := by rw [HP.out.1, HQ.out, HR.out]; simp
            go_ret
            refine ⟨_, rfl, ?_, H4.out.2.2.2.2.1.trans ((HP2.out.2.1.trans HZ.out).mono H4.out.2.2.2.1)⟩
            show Value.string _ = Value.string ⟨R.toArray⟩
            rw [hfin]
            try simp
end Go.Proofs.YtmmnkoeajdeldaaGreatDoor
