/- The walk of manifest's Bytes: a snapshot as bytes. -/
import Derived.Test.YtadoplgmeoghmaaDoorMf3W
import Derived.Test.YtadoplgmeoghmaaDoorDecW
import Derived.Test.YtadoplgmeoghmaaDoorMfChk
import Derived.Test.YtadoplgmeoghmaaDoorBldWrite
import Derived.Test.YtadoplgmeoghmaaDoorNumW4
import Derived.Test.YtadoplgmeoghmaaDoorPutW
namespace Go.Proofs.YtadoplgmeoghmaaDoor
open Go.RowKit
set_option linter.unusedVariables false
set_option linter.unusedSimpArgs false
attribute [local go_sem] ba_get ba_cut ba_add
set_option maxRecDepth 100000 in
theorem mdec_int (n : Int) (w : World) (h : Pl.I64 n) (hv : VTab w) : Calls Tryd.prog 37 #[.int .i64 n] w (RetB (fun v _ => v = .string ⟨(Lib.itoa n).toArray⟩) w) := by
  go_enter Tryd.func37, Tryd.ntmps37
  go_wp2_with fail
  (with_reducible refine (dec_any n w h hv).mono ?_)
  rintro e w1 ⟨v, rfl, rfl, hb⟩
  go_wp2_with fail
  go_ret
  exact ⟨_, rfl, rfl, hb⟩
set_option maxRecDepth 100000 in
theorem mdec_int64 (n : Int) (w : World) (h : Pl.I64 n) (hv : VTab w) : Calls Tryd.prog 38 #[.int .i64 n] w (RetB (fun v _ => v = .string ⟨(Lib.itoa n).toArray⟩) w) := by
  go_enter Tryd.func38, Tryd.ntmps38
  go_wp2_with fail
  (with_reducible refine (dec_any n w h hv).mono ?_)
  rintro e w1 ⟨v, rfl, rfl, hb⟩
  go_wp2_with fail
  go_ret
  exact ⟨_, rfl, rfl, hb⟩
/-- A snapshot's first nine cells, at the head of a block. -/
structure Sn9 (w : World) (B : Nat) (s : Pl.Snap) (X : Cx) : Prop where
  c0 : w.cell? ⟨B, 0, none⟩ = some (.string ⟨s.m.toArray⟩)
  c1 : w.cell? ⟨B, 1, none⟩ = some (.int .i64 s.n)
  c2 : w.cell? ⟨B, 2, none⟩ = some (.int .i64 s.at_)
  c3 : w.cell? ⟨B, 3, none⟩ = some (.int .u64 s.clock)
  c4 : w.cell? ⟨B, 4, none⟩ = some (.int .i64 s.pages)
  c5 : w.cell? ⟨B, 5, none⟩ = some (.int .i64 s.blocks)
  c6 : w.cell? ⟨B, 6, none⟩ = some (.slice X.A0 X.n0 X.k0)
  c7 : w.cell? ⟨B, 7, none⟩ = some (.slice X.A1 X.n1 X.k1)
  c8 : w.cell? ⟨B, 8, none⟩ = some (.slice X.A2 X.n2 X.k2)
  sum : w.rangeAt B 9 (byC s.sum)
theorem sn9_of {w : World} {B : Nat} {s : Pl.Snap} {X : Cx} (h : SnAt w B 0 s X) : Sn9 w B s X := by
  have hs : w.rangeAt B 9 (byC s.sum) := fun j v hv => by
    have := h.all (9 + j) v (by simpa [snL, Nat.add_comm] using hv)
    rwa [Nat.zero_add] at this
  obtain ⟨-, c0, c1, c2, c3, c4, c5, c6, c7, c8⟩ := h
  simp only [Nat.zero_add] at c0 c1 c2 c3 c4 c5 c6 c7 c8
  exact ⟨c0, c1, c2, c3, c4, c5, c6, c7, c8, hs⟩
theorem Sn9.keep {w w' : World} {B B' : Nat} {s : Pl.Snap} {X : Cx} (h : Sn9 w B s X) (hB : B < B') (hb : Below B' w w') : Sn9 w' B s X := by
  have k : ∀ i, w'.cell? ⟨B, i, none⟩ = w.cell? ⟨B, i, none⟩ := fun i => hb.cell (p := ⟨B, i, none⟩) hB
  exact ⟨(k _).trans h.c0, (k _).trans h.c1, (k _).trans h.c2, (k _).trans h.c3, (k _).trans h.c4, (k _).trans h.c5, (k _).trans h.c6, (k _).trans h.c7, (k _).trans h.c8, fun j v hv => (k _).trans (h.sum j v hv)⟩
theorem Sn9.below {w w' : World} {B : Nat} {s : Pl.Snap} {X : Cx} (h : Sn9 w B s X) (hB : B < w.heap.size) (hb : Below w.heap.size w w') : Sn9 w' B s X := h.keep hB hb
theorem Sn9.drew {w : World} {B : Nat} {s : Pl.Snap} {X : Cx} (h : Sn9 w B s X) : Sn9 w.drew B s X := ⟨h.c0, h.c1, h.c2, h.c3, h.c4, h.c5, h.c6, h.c7, h.c8, fun j v hv => h.sum j v hv⟩
theorem i64_mk {v : Int} (h : -9223372036854775808 ≤ v) (h2 : v ≤ 9223372036854775807) : Pl.I64 v := ⟨h, h2⟩
theorem snAt_range {V : World} {B : Nat} {s : Pl.Snap} {X : Cx} (hx : SnAt V B 0 s X) : V.rangeAt B 0 (snL s X) := hx.all
def bytesV (r : List UInt8 × Nat) : Value := .tuple #[.string ⟨r.1.toArray⟩, .int .i64 (r.2 : Int)]
/-- A literal's row is the call's own. -/
theorem own_lit (w : World) (base : Nat) (xs : List Value) (e : TypeId) (n : Nat) (hn : xs.length = n) (hb : base ≤ w.heap.size) (hm : n ≤ maxLen) : (w.alloc (.cells xs.toArray e)).ownsRow base e 1 (.slice (some ⟨w.heap.size, 0, none⟩) n n) n xs :=
  ⟨by omega, .inr ⟨w.heap.size, n, xs.toArray, rfl, hb, heap_alloc_new w _, Nat.le_refl _, hm, by simp [hn], by rw [Nat.mul_one]; simp [← hn]⟩⟩
theorem info_snap : (Tryd.prog.info? 31).map (·.size) = some 41 := by kernel_rfl
theorem info_sn {w : World} {s : Pl.Snap} {X : Cx} (h : SnOk w s X) : (Tryd.prog.info? 31).map (·.size) = some (snL s X).length := by rw [snL_len h]; exact info_snap
theorem clockMod {x : Int} (h : 0 ≤ x ∧ x < 18446744073709551616) : putK 8 = 8 := rfl
/-- The texts ahead of the rows of digests. -/
def head7 (s : Pl.Snap) : List (List UInt8) := [Pl.hibm, s.m, Lib.itoa s.n, Lib.itoa s.at_, Pl.putB s.clock.toNat 8, Lib.itoa s.pages, Lib.itoa s.blocks]
def rows3 (s : Pl.Snap) (k : Nat) : List (List UInt8) := [Pl.rawB s.c0, Pl.rawB s.c1, Pl.rawB s.c2].take k
theorem rows3_succ (s : Pl.Snap) {k : Nat} (h : k < 3) : rows3 s (k + 1) = rows3 s k ++ [Pl.rawB (Pl.ck s k)] := by
  obtain rfl | rfl | rfl : k = 0 ∨ k = 1 ∨ k = 2 := by omega
  all_goals simp [rows3, Pl.ck]
theorem sheet_eq (s : Pl.Snap) : Pl.sheet s = head7 s ++ rows3 s 3 ++ [s.sum] := by simp [Pl.sheet, head7, rows3]
theorem sumLen_bound (l : List (List UInt8)) (b : Nat) (h : ∀ t ∈ l, t.length ≤ b) : sumLen l ≤ l.length * (b + 1) := by
  induction l with
  | nil => simp [sumLen]
  | cons x l ih =>
    have h1 := h x (by simp)
    have h2 := ih fun t ht => h t (by simp [ht])
    simp only [sumLen, List.length_cons, Nat.add_mul]; omega
theorem ck_ok {s : Pl.Snap} (h : Pl.ChkOk s) (k : Nat) : (Pl.ck s k).all Pl.okN = true ∧ (Pl.ck s k).length ≤ 1000 := by
  have := h.l
  unfold Pl.ck
  split
  · exact ⟨h.c0, by omega⟩
  · split
    · exact ⟨h.c1, by omega⟩
    · exact ⟨h.c2, by omega⟩
theorem byC_get' {d : List UInt8} {k : Nat} (h : k < d.length) : (byC d)[k]? = some (.int .u8 (d[k].toNat : Int)) := by simp [byC, h]
theorem digOf_ok {t : List UInt8} (h : Pl.okN t = true) : digOf (Pl.hashOf t) = byC (Pl.digS t) := by
  unfold Pl.okN at h
  unfold Pl.digS
  cases hh : Pl.hashOf t with
  | none => rw [hh] at h; cases h
  | some d => rfl
set_option maxRecDepth 100000 in
set_option maxHeartbeats 8000000 in
theorem mbytes_any (s : Pl.Snap) (X : Cx) (w : World) (hok : SnOk w s X) (hfit : SnFit s) (hclk : 0 ≤ s.clock ∧ s.clock < 18446744073709551616) (hv : VTab w) : Calls Tryd.prog 15 #[.agg (snL s X).toArray] w (RetB (fun v _ => v = bytesV (Pl.mbytes s)) w) := by
  obtain ⟨E, hE⟩ : ∃ E, Pl.mchk s = E := ⟨_, rfl⟩
  obtain ⟨R, hR⟩ : ∃ R, Pl.mbytes s = R := ⟨_, rfl⟩
  rw [hR]
  have hchk := fun W h => mcheck_any s X W h hfit
  rw [hE] at hchk
  have HR := Lib.hid (And.intro hR hE)
  have HC := Lib.hid hchk
  have HF := Lib.hid (And.intro hfit hclk)
  have HI := Lib.hid (info_sn hok)
  have HOK := Lib.hid hok
  clear hR hchk hfit hE
  obtain ⟨LS, hLS⟩ : ∃ L, snL s X = L := ⟨_, rfl⟩
  rw [hLS]
  have HLS := Lib.hid hLS
  go_enter Tryd.func15, Tryd.ntmps15
  go_upto_region 1 with (fail)
  generalize hV : w.alloc _ = V
  have hx : SnAt V w.heap.size 0 s X := by rw [← hV, ← hLS]; exact snAt_new w s X
  have hbV : Below w.heap.size w V := by rw [← hV]; exact (Below.refl _ _).alloc (Nat.le_refl _) _
  have hBV : w.heap.size < V.heap.size := by rw [← hV]; simp
  replace hok := hok.below hbV
  have hr0 := snAt_range hx
  rw [hLS] at hr0
  have hinf := HI.out
  rw [hLS] at hinf
  clear hV hLS
  go_wp2_with (with_reducible refine wpList_load_mid rfl 31 _ rfl w.heap.size 0 rfl LS _ hr0 Tryd.underlying31 rfl hinf ?_)
  rw [← HLS.out]
  (with_reducible refine (HC.out _ hok).mono ?_)
  rintro e w1 ⟨v, rfl, rfl, hb1⟩
  rw [HLS.out]
  have hb1' : Below w.heap.size w w1 := hbV.trans (hb1.mono hbV.size)
  replace hx := hx.below hBV hb1
  replace hok := hok.below hb1
  replace hBV : w.heap.size < w1.heap.size := Nat.lt_of_lt_of_le hBV hb1.size
  have hv1 := hv.keep hb1' (Nat.le_refl _)
  clear hr0 hinf hb1 hbV hv
  by_cases hE0 : E ≠ 0
  · have hRE : R = ([], E) := by rw [← HR.out.1, ← HR.out.2]; exact Pl.mbytes_no (by rw [HR.out.2]; exact hE0)
    have HRE := Lib.hid hRE; clear hRE
    have hne : ((E : Int) == 0) = false := by rw [beq_eq_false_iff_ne]; omega
    go_wp2_with fail
    go_ret2
    exact ⟨_, rfl, by rw [HRE.out]; rfl, hb1'⟩
  · obtain rfl : E = 0 := by omega
    clear hE0
    have hko := Pl.chkOk_of HR.out.2
    have hRE : R = (Pl.rowB (Pl.sheet s), 0) := by rw [← HR.out.1]; exact Pl.mbytes_ok HR.out.2
    have hsh := Pl.sheet_short hko hok.sum
    have HK := Lib.hid (And.intro hko (And.intro hRE hsh)); clear hRE hsh
    go_wp2_with fail
    have hS := sn9_of hx
    have hv1d : VTab w1.drew := hv1.keep ((Below.refl w1.heap.size w1).drew) (Nat.le_refl _)
    refine wp_region_held_drew (S := (fun w' => Sn9 w' w.heap.size s X)) (by kernel_rfl) (by exact hS.drew) (fun hHeld => ?_)
    refine wpAnyH_take (i := 0) (v := ?_) rfl (by kernel_rfl) (by kernel_rfl) (by kernel_rfl) (fun _ _ _ h => h) (Or.inl ⟨by kernel_rfl, ?_⟩) hHeld ?_
    rotate_left
    · (intro w' hSw; obtain ⟨hS0, hS1, hS2, hS3, hS4, hS5, hS6, hS7, hS8, hS9⟩ := hSw; go_simp; try with_reducible rfl)
    simp only [Act.put, List.setIfInBounds_toArray, List.set_cons_zero, List.set_cons_succ, List.getElem_toArray, List.getElem_cons_succ, List.getElem_cons_zero]
    refine wpAnyH_take (i := 1) (v := ?_) rfl (by kernel_rfl) (by kernel_rfl) (by kernel_rfl) (fun _ _ _ h => h) (Or.inl ⟨by kernel_rfl, ?_⟩) hHeld ?_
    rotate_left
    · (intro w' hSw; obtain ⟨hS0, hS1, hS2, hS3, hS4, hS5, hS6, hS7, hS8, hS9⟩ := hSw; go_simp; try with_reducible rfl)
    simp only [Act.put, List.setIfInBounds_toArray, List.set_cons_zero, List.set_cons_succ, List.getElem_toArray, List.getElem_cons_succ, List.getElem_cons_zero]
    refine wpAnyH_take (i := 2) (v := ?_) rfl (by kernel_rfl) (by kernel_rfl) (by kernel_rfl) (fun _ _ _ h => h) (Or.inl ⟨by kernel_rfl, ?_⟩) hHeld ?_
    rotate_left
    · (intro w' hSw; obtain ⟨hS0, hS1, hS2, hS3, hS4, hS5, hS6, hS7, hS8, hS9⟩ := hSw; go_simp; try with_reducible rfl)
    simp only [Act.put, List.setIfInBounds_toArray, List.set_cons_zero, List.set_cons_succ, List.getElem_toArray, List.getElem_cons_succ, List.getElem_cons_zero]
    refine wpAnyH_take (i := 3) (v := ?_) rfl (by kernel_rfl) (by kernel_rfl) (by kernel_rfl) (fun _ _ _ h => h) (Or.inl ⟨by kernel_rfl, ?_⟩) hHeld ?_
    rotate_left
    · (intro w' hSw; obtain ⟨hS0, hS1, hS2, hS3, hS4, hS5, hS6, hS7, hS8, hS9⟩ := hSw; go_simp; try with_reducible rfl)
    simp only [Act.put, List.setIfInBounds_toArray, List.set_cons_zero, List.set_cons_succ, List.getElem_toArray, List.getElem_cons_succ, List.getElem_cons_zero]
    refine wpAnyH_take (i := 5) (v := ?_) rfl (by kernel_rfl) (by kernel_rfl) (by kernel_rfl) (fun _ _ _ h => h) (Or.inl ⟨by kernel_rfl, ?_⟩) hHeld ?_
    rotate_left
    · (intro w' hSw; obtain ⟨hS0, hS1, hS2, hS3, hS4, hS5, hS6, hS7, hS8, hS9⟩ := hSw; go_simp; try with_reducible rfl)
    simp only [Act.put, List.setIfInBounds_toArray, List.set_cons_zero, List.set_cons_succ, List.getElem_toArray, List.getElem_cons_succ, List.getElem_cons_zero]
    refine wpAnyH_take (i := 6) (v := ?_) rfl (by kernel_rfl) (by kernel_rfl) (by kernel_rfl) (fun _ _ _ h => h) (Or.inl ⟨by kernel_rfl, ?_⟩) hHeld ?_
    rotate_left
    · (intro w' hSw; obtain ⟨hS0, hS1, hS2, hS3, hS4, hS5, hS6, hS7, hS8, hS9⟩ := hSw; go_simp; try with_reducible rfl)
    simp only [Act.put, List.setIfInBounds_toArray, List.set_cons_zero, List.set_cons_succ, List.getElem_toArray, List.getElem_cons_succ, List.getElem_cons_zero]
    refine wpAnyH_take (i := 8) (v := ?_) rfl (by kernel_rfl) (by kernel_rfl) (by kernel_rfl) (fun _ _ _ h => h) (Or.inl ⟨by kernel_rfl, ?_⟩) hHeld ?_
    rotate_left
    · (intro w' hSw; obtain ⟨hS0, hS1, hS2, hS3, hS4, hS5, hS6, hS7, hS8, hS9⟩ := hSw; go_simp; try with_reducible rfl)
    simp only [Act.put, List.setIfInBounds_toArray, List.set_cons_zero, List.set_cons_succ, List.getElem_toArray, List.getElem_cons_succ, List.getElem_cons_zero]
    refine wpAnyH_take (i := 9) (v := ?_) rfl (by kernel_rfl) (by kernel_rfl) (by kernel_rfl) (fun _ _ _ h => h) (Or.inl ⟨by kernel_rfl, ?_⟩) hHeld ?_
    rotate_left
    · (intro w' hSw; obtain ⟨hS0, hS1, hS2, hS3, hS4, hS5, hS6, hS7, hS8, hS9⟩ := hSw; go_simp; try with_reducible rfl)
    simp only [Act.put, List.setIfInBounds_toArray, List.set_cons_zero, List.set_cons_succ, List.getElem_toArray, List.getElem_cons_succ, List.getElem_cons_zero]
    refine wpAnyH_take (i := 11) (v := ?_) rfl (by kernel_rfl) (by kernel_rfl) (by kernel_rfl) (fun _ _ _ h => h) (Or.inl ⟨by kernel_rfl, ?_⟩) hHeld ?_
    rotate_left
    · (intro w' hSw; obtain ⟨hS0, hS1, hS2, hS3, hS4, hS5, hS6, hS7, hS8, hS9⟩ := hSw; go_simp; try with_reducible rfl)
    simp only [Act.put, List.setIfInBounds_toArray, List.set_cons_zero, List.set_cons_succ, List.getElem_toArray, List.getElem_cons_succ, List.getElem_cons_zero]
    refine wpAnyH_take (i := 12) (v := ?_) rfl (by kernel_rfl) (by kernel_rfl) (by kernel_rfl) (fun _ _ _ h => h) (Or.inl ⟨by kernel_rfl, ?_⟩) hHeld ?_
    rotate_left
    · (intro w' hSw; obtain ⟨hS0, hS1, hS2, hS3, hS4, hS5, hS6, hS7, hS8, hS9⟩ := hSw; go_simp; try with_reducible rfl)
    simp only [Act.put, List.setIfInBounds_toArray, List.set_cons_zero, List.set_cons_succ, List.getElem_toArray, List.getElem_cons_succ, List.getElem_cons_zero]
    refine wpAnyH_take (i := 14) (v := ?_) rfl (by kernel_rfl) (by kernel_rfl) (by kernel_rfl) (fun _ _ _ h => h) (Or.inl ⟨by kernel_rfl, ?_⟩) hHeld ?_
    rotate_left
    · (intro w' hSw; obtain ⟨hS0, hS1, hS2, hS3, hS4, hS5, hS6, hS7, hS8, hS9⟩ := hSw; go_simp; try with_reducible rfl)
    simp only [Act.put, List.setIfInBounds_toArray, List.set_cons_zero, List.set_cons_succ, List.getElem_toArray, List.getElem_cons_succ, List.getElem_cons_zero]
    refine wpAnyH_take (i := 15) (v := ?_) rfl (by kernel_rfl) (by kernel_rfl) (by kernel_rfl) (fun _ _ _ h => h) (Or.inl ⟨by kernel_rfl, ?_⟩) hHeld ?_
    rotate_left
    · (intro w' hSw; obtain ⟨hS0, hS1, hS2, hS3, hS4, hS5, hS6, hS7, hS8, hS9⟩ := hSw; go_simp; try with_reducible rfl)
    simp only [Act.put, List.setIfInBounds_toArray, List.set_cons_zero, List.set_cons_succ, List.getElem_toArray, List.getElem_cons_succ, List.getElem_cons_zero]
    refine wpAnyH_ready (rs := [4]) (by kernel_rfl) (by simp) (AllReadyH.cons rfl (fun K hK => ?_) AllReadyH.nil)
    go_simp
    (with_reducible refine (mdec_int s.n _ (i64_mk (by have := HK.out.1.n; omega) (by have := HK.out.1.n; omega)) hv1d).mono ?_)
    rintro e w2 ⟨v, rfl, rfl, hb2⟩
    have hd2 : Below w.heap.size w w2 := hb1'.drew.trans (hb2.mono (Nat.le_of_lt hBV))
    have hS2 : Sn9 w2 w.heap.size s X := Sn9.below (w := w1.drew) hS.drew hBV hb2
    have hB2 : w.heap.size < w2.heap.size := Nat.lt_of_lt_of_le hBV hb2.size
    have HV2 := hv1d.keep hb2 (Nat.le_refl _)
    refine hK.out _ _ hS2 (fun hHeld => ?_)
    clear hK K
    (try simp only [Act.put, List.setIfInBounds_toArray, List.set_cons_zero, List.set_cons_succ, List.getElem_toArray, List.getElem_cons_succ, List.getElem_cons_zero])
    refine wpAnyH_ready (rs := [7]) (by kernel_rfl) (by simp) (AllReadyH.cons rfl (fun K hK => ?_) AllReadyH.nil)
    go_simp
    (with_reducible refine (mdec_int64 s.at_ _ (i64_mk (by have := HK.out.1.a; omega) (by have := HK.out.1.a; omega)) HV2).mono ?_)
    rintro e w3 ⟨v, rfl, rfl, hb3⟩
    have hd3 : Below w.heap.size w w3 := hd2.trans (hb3.mono hd2.size)
    have hS3 : Sn9 w3 w.heap.size s X := hS2.below hB2 hb3
    have hB3 : w.heap.size < w3.heap.size := Nat.lt_of_lt_of_le hB2 hb3.size
    have HV3 := HV2.keep hb3 (Nat.le_refl _)
    refine hK.out _ _ hS3 (fun hHeld => ?_)
    clear hK K
    (try simp only [Act.put, List.setIfInBounds_toArray, List.set_cons_zero, List.set_cons_succ, List.getElem_toArray, List.getElem_cons_succ, List.getElem_cons_zero])
    refine wpAnyH_ready (rs := [10]) (by kernel_rfl) (by simp) (AllReadyH.cons rfl (fun K hK => ?_) AllReadyH.nil)
    go_simp
    (with_reducible refine (put_int s.clock HF.out.2.1 8 _).mono ?_)
    rintro e w4 ⟨v, rfl, rfl, hb4⟩
    have hd4 : Below w.heap.size w w4 := hd3.trans (hb4.mono hd3.size)
    have hS4 : Sn9 w4 w.heap.size s X := hS3.below hB3 hb4
    have hB4 : w.heap.size < w4.heap.size := Nat.lt_of_lt_of_le hB3 hb4.size
    have HV4 := HV3.keep hb4 (Nat.le_refl _)
    refine hK.out _ _ hS4 (fun hHeld => ?_)
    clear hK K
    (try simp only [Act.put, List.setIfInBounds_toArray, List.set_cons_zero, List.set_cons_succ, List.getElem_toArray, List.getElem_cons_succ, List.getElem_cons_zero])
    refine wpAnyH_ready (rs := [13]) (by kernel_rfl) (by simp) (AllReadyH.cons rfl (fun K hK => ?_) AllReadyH.nil)
    go_simp
    (with_reducible refine (mdec_int s.pages _ (i64_mk (by have := HK.out.1.p; omega) (by have := HK.out.1.p; omega)) HV4).mono ?_)
    rintro e w5 ⟨v, rfl, rfl, hb5⟩
    have hd5 : Below w.heap.size w w5 := hd4.trans (hb5.mono hd4.size)
    have hS5 : Sn9 w5 w.heap.size s X := hS4.below hB4 hb5
    have hB5 : w.heap.size < w5.heap.size := Nat.lt_of_lt_of_le hB4 hb5.size
    have HV5 := HV4.keep hb5 (Nat.le_refl _)
    refine hK.out _ _ hS5 (fun hHeld => ?_)
    clear hK K
    (try simp only [Act.put, List.setIfInBounds_toArray, List.set_cons_zero, List.set_cons_succ, List.getElem_toArray, List.getElem_cons_succ, List.getElem_cons_zero])
    refine wpAnyH_ready (rs := [16]) (by kernel_rfl) (by simp) (AllReadyH.cons rfl (fun K hK => ?_) AllReadyH.nil)
    go_simp
    (with_reducible refine (mdec_int s.blocks _ (i64_mk (by have := HK.out.1.b; omega) (by have := HK.out.1.b; omega)) HV5).mono ?_)
    rintro e w6 ⟨v, rfl, rfl, hb6⟩
    have hd6 : Below w.heap.size w w6 := hd5.trans (hb6.mono hd5.size)
    have hS6 : Sn9 w6 w.heap.size s X := hS5.below hB5 hb6
    have hB6 : w.heap.size < w6.heap.size := Nat.lt_of_lt_of_le hB5 hb6.size
    have HV6 := HV5.keep hb6 (Nat.le_refl _)
    refine hK.out _ _ hS6 (fun hHeld => ?_)
    clear hK K
    (try simp only [Act.put, List.setIfInBounds_toArray, List.set_cons_zero, List.set_cons_succ, List.getElem_toArray, List.getElem_cons_succ, List.getElem_cons_zero])
    refine wpAnyH_ready (rs := [17]) (by kernel_rfl) (by simp) (AllReadyH.cons rfl (fun K hK => ?_) AllReadyH.nil)
    go_simp
    have hS7 : Sn9 (w6.alloc (.cells ((head7 s).map fun t => Value.string ⟨t.toArray⟩).toArray 9)) w.heap.size s X := hS6.below hB6 ((Below.refl _ _).alloc (Nat.le_refl _) _)
    have hown : (w6.alloc (.cells (strs (head7 s)).toArray 9)).ownsRow (w.heap.size + 1) 9 1 (.slice (some ⟨w6.heap.size, 0, none⟩) 7 7) 7 (strs (head7 s)) := own_lit w6 (w.heap.size + 1) (strs (head7 s)) 9 7 rfl hB6 (by decide)
    have hd7 : Below w.heap.size w (w6.alloc (.cells (strs (head7 s)).toArray 9)) := hd6.alloc hd6.size _
    obtain ⟨W, hW⟩ : ∃ W, w6.alloc (.cells (strs (head7 s)).toArray 9) = W := ⟨_, rfl⟩
    obtain ⟨H6, hH6⟩ : ∃ H, w6.heap.size = H := ⟨_, rfl⟩
    replace hS7 : Sn9 W w.heap.size s X := by rw [← hW]; exact hS7
    rw [hW, hH6] at hown
    rw [hW] at hd7
    rw [hH6]
    replace hW : w6.alloc (.cells #[.string ⟨#[104, 105, 98, 109]⟩, .string ⟨s.m.toArray⟩, .string ⟨(Lib.itoa s.n).toArray⟩, .string ⟨(Lib.itoa s.at_).toArray⟩, .string ⟨(Pl.putB s.clock.toNat (putK 8)).toArray⟩, .string ⟨(Lib.itoa s.pages).toArray⟩, .string ⟨(Lib.itoa s.blocks).toArray⟩] 9) = W := hW
    rw [hW]
    clear hW hH6 hd6 hS6 hB6 HV6 hb6 hd5 hS5 hB5 HV5 hb5 hd4 hS4 hB4 HV4 hb4 hd3 hS3 hB3 HV3 hb3 hd2 hS2 hB2 HV2 hb2 hv1d hv1 hBV hx hb1' hok hS
    refine hK.out _ _ hS7 (fun hHeld => ?_)
    clear hK K
    (try simp only [Act.put, List.setIfInBounds_toArray, List.set_cons_zero, List.set_cons_succ, List.getElem_toArray, List.getElem_cons_succ, List.getElem_cons_zero])
    refine wpAnyH_take (i := 18) (v := ?_) rfl (by kernel_rfl) (by kernel_rfl) (by kernel_rfl) (fun _ _ _ h => h) (Or.inl ⟨by kernel_rfl, ?_⟩) hHeld ?_
    rotate_left
    · (intro w' hSw; obtain ⟨hS0, hS1, hS2, hS3, hS4, hS5, hS6, hS7, hS8, hS9⟩ := hSw; go_simp; try with_reducible rfl)
    simp only [Act.put, List.setIfInBounds_toArray, List.set_cons_zero, List.set_cons_succ, List.getElem_toArray, List.getElem_cons_succ, List.getElem_cons_zero]
    refine wpAnyH_done (by kernel_rfl) ?_ _
    clear hHeld
    have hok := HOK.out.below hd7
    have hBW : w.heap.size < W.heap.size := by
      rcases Nat.lt_or_ge w.heap.size W.heap.size with h | h
      · exact h
      · have := hS7.c0; simp [World.cell?, Array.getElem?_eq_none h] at this
    obtain ⟨A0, n0, k0, A1, n1, k1, A2, n2, k2⟩ := X
    have HS7 := Lib.hid hS7
    obtain ⟨-, -, -, -, -, -, c6, c7, c8, -⟩ := hS7
    go_wp2_with fail
    clear c6 c7 c8
    have HST := Lib.hid info_str
    go_loopw [5, 38] (fun v i wr => ∃ (k : Nat) (A : Option Addr) (m c : Nat) (o : List (List UInt8)), k ≤ 3 ∧ i = .int .i64 (k : Nat) ∧ v = .slice A m c ∧ wr.ownsRow (w.heap.size + 1) 9 1 (.slice A m c) m (strs o) ∧ Below (w.heap.size + 1) W wr ∧ m ≤ 10 ∧ Hid (o = head7 s ++ rows3 s k ∧ o.length = m)) (fun _ i _ => 3 - (intOf i).toNat)
    case atStart => exact ⟨0, _, 7, 7, head7 s, by omega, rfl, rfl, hown, Below.refl _ _, by omega, ⟨by simp [rows3], rfl⟩⟩
    case round =>
      clear hown hok
      obtain ⟨k, A, m, c, o, hk, rfl, rfl, hown, hbV, hm, HO⟩ := hrel
      have hsz : w.heap.size + 1 ≤ wr.heap.size := Nat.le_trans hBW hbV.size
      by_cases hk3 : k < 3
      · obtain ⟨A', n, cc, hix, hsl⟩ := three s ⟨A0, n0, k0, A1, n1, k1, A2, n2, k2⟩ hk3
        have hok' := HOK.out.below (hd7.trans (hbV.mono (by omega)))
        have hrd : Rd wr 1 A' n (strs (Pl.ck s k)) := (hsl wr hok').1
        clear hsl
        have hnl : (Pl.ck s k).length = n := by have := hrd.len1; rwa [strs_len] at this
        have hall := ck_ok HK.out.1 k
        have hfit := (ck_fit HF.out.1 k).2
        have hrs := rows3_succ s hk3
        obtain ⟨L, hL⟩ : ∃ L, Pl.ck s k = L := ⟨_, rfl⟩
        rw [hL] at hrd hnl hall hfit hrs
        have hn : n ≤ 1000 := by rw [← hnl]; exact hall.2
        have HL := Lib.hid (And.intro hnl (And.intro hall.1 (And.intro hfit hrs))); clear hnl hall hfit hrs hL hok'
        go_upto_region 9 with (fail)
        have hB0 := bld_new wr.heap.size wr (Nat.le_refl _)
        generalize hW0 : wr.alloc _ = W0
        rw [hW0] at hB0
        have hb0 : Below wr.heap.size wr W0 := by rw [← hW0]; exact (Below.refl _ _).alloc (Nat.le_refl _) _
        have hs0 : wr.heap.size < W0.heap.size := by rw [← hW0]; simp
        clear hW0
        go_wp2_with fail
        obtain ⟨wo, rfl⟩ : ∃ wo : World, wo = wr := ⟨_, rfl⟩
        go_loopw [43] (fun i wr => ∃ (j : Nat) (l : List UInt8), j ≤ n ∧ i = .int .i64 (j : Nat) ∧ Bld wo.heap.size wo.heap.size l wr ∧ Below wo.heap.size wo wr ∧ wo.heap.size < wr.heap.size ∧ l.length ≤ 32 * j ∧ Hid (Pl.rawB (L.take j) = l)) (fun i _ => n - (intOf i).toNat)
        case atStart => exact ⟨0, [], by omega, rfl, hB0, hb0, hs0, by simp, rfl⟩
        case round =>
          clear hB0 hb0 hs0
          obtain ⟨j, l, hj, rfl, hB, hb, hs, hll, HY⟩ := hrel
          by_cases hjn : j < n
          · have hjl : j < L.length := by rw [HL.out.1]; exact hjn
            have hrd' := hrd.below hb
            obtain ⟨b1, o1, rfl, -, hc1⟩ := hrd'.at1 hjn
            rw [strs_get L j hjl] at hc1
            have hst : Pl.rawB (L.take (j + 1)) = Pl.rawB (L.take j) ++ Pl.digS L[j] := by rw [List.take_succ_eq_append_getElem hjl, Pl.rawB_snoc]
            have htl := HL.out.2.2.1 _ (List.getElem_mem hjl)
            have hto : Pl.okN L[j] = true := List.all_eq_true.1 HL.out.2.1 _ (List.getElem_mem hjl)
            obtain ⟨t, ht⟩ : ∃ t, L[j] = t := ⟨_, rfl⟩
            rw [ht] at hc1 htl hst hto
            rw [HY.out] at hst
            have hcall := fun w => of_at t w htl
            have hdl := Pl.digS_len hto
            have hdd := digOf_ok hto
            rw [hdd, hto] at hcall
            obtain ⟨d, hd⟩ : ∃ d, Pl.digS t = d := ⟨_, rfl⟩
            rw [hd] at hcall hst hdl
            obtain ⟨D, hD⟩ : ∃ D, byC d = D := ⟨_, rfl⟩
            have hDl : D.length = 32 := by rw [← hD, byC_len, hdl]
            have hDo : D.toArray.all (·.oneCell') = true := by rw [← hD]; exact onea_by d
            rw [hD] at hcall
            have HCL := Lib.hid hcall
            have HSS := Lib.hid hst
            have HD := Lib.hid (And.intro hDl (And.intro hDo (And.intro hD hdl)))
            clear hcall hst hdd hd hD hDl hDo hdl hto ht htl hrd'
            go_wp2_with fail
            (with_reducible refine (HCL.out _).mono ?_)
            rintro e v1 ⟨v, rfl, rfl, hb1⟩
            go_upto_region 13 with (with_reducible refine wpList_store_dig rfl _ _ rfl _ D rfl rfl rfl HD.out.1 HD.out.2.1 ?_)
            have hgn := heap_alloc_new v1 (.cells D.toArray 29)
            have hbg : Below wr.heap.size wr (v1.alloc (.cells D.toArray 29)) := hb1.alloc hb1.size _
            have hBg := hB.below hbg
            have hne : v1.heap.size ≠ wo.heap.size := by have := hb1.size; omega
            have hsg : wo.heap.size ≤ (v1.alloc (.cells D.toArray 29)).heap.size := by have := hb1.size; simp; omega
            have hW := Lib.hid (bld_write wo.heap.size wo.heap.size l d v1.heap.size 32 32 D.toArray 29 _ hBg hgn (by decide) hne HD.out.2.2.2 (by rw [HD.out.2.2.1]; intro j u hu; simpa using hu) (by omega) hsg)
            clear hgn hBg hne hsg
            go_wp2_with fail
            (with_reducible refine hW.out.mono ?_)
            rintro e v2 ⟨rfl, hB2, hb2, -⟩
            have hbo : Below wo.heap.size wo v2 := (hb.trans (hbg.mono (Nat.le_of_lt hs))).trans hb2
            have hso : wo.heap.size < v2.heap.size := Nat.lt_of_lt_of_le hs (Nat.le_trans hbg.size hb2.size)
            go_wp2_with fail
            go_roundw
            case rel => exact ⟨j + 1, l ++ d, by omega, by go_num, hB2, hbo, hso, by rw [List.length_append, HD.out.2.2.2]; omega, HSS.out⟩
            case measure => simp [intOf]; omega
          · obtain rfl : n = j := by omega
            have hfin := HY.out
            rw [List.take_of_length_le (by rw [HL.out.1]; omega)] at hfin
            have HFN := Lib.hid hfin; clear hfin
            have HBS := Lib.hid (bld_string wo.heap.size wo.heap.size l wr hB (Nat.le_of_lt hs))
            go_wp2_with fail
            (with_reducible refine HBS.out.mono ?_)
            rintro e v1 ⟨rfl, hB1, hb1, -⟩
            have hbo : Below wo.heap.size wo v1 := hb.trans hb1
            have hown1 := own_below hown hbo
            have hsv : w.heap.size + 1 ≤ v1.heap.size := Nat.le_trans hsz hbo.size
            go_wp2_with (at_builtin; refine push_one rfl (.tmp 55) (.tmp 57) 27 rfl (w.heap.size + 1) 9 (.string ⟨#[]⟩) 16 Tryd.underlying27 HST.out rfl _ _ _ _ _ rfl hown1 rfl rfl (by omega) (by omega) hsv ?_; intro v' v2 hown2 hb2; obtain ⟨A3, c3, rfl⟩ := own_form' hown2)
            go_roundw
            case rel =>
              obtain ⟨e1, e2⟩ := strs_snoc' o l m HO.out.2
              rw [e1] at hown2
              have hm9 : m + 1 ≤ 10 := by
                have h1 := HO.out.1
                have h2 := congrArg List.length h1
                simp [head7, rows3] at h2
                have := HO.out.2
                omega
              exact ⟨k + 1, A3, m + 1, c3, o ++ [l], by omega, by go_num, rfl, hown2, (hbV.trans (hbo.mono hsz)).trans hb2, hm9, ⟨by rw [HL.out.2.2.2, HFN.out, HO.out.1, List.append_assoc], e2⟩⟩
            case measure => simp [intOf]; omega
      · obtain rfl : k = 3 := by omega
        have hSr := HS7.out.keep (by omega) hbV
        have hsl := HOK.out.sum
        have hcv := bytes_conv wr w.heap.size 9 32 32 s.sum hsl (fun j hj => by rw [hSr.sum j (.int .u8 (s.sum[j].toNat : Int)) (byC_get' hj)])
        obtain ⟨sm, hsm⟩ : ∃ sm, s.sum = sm := ⟨_, rfl⟩
        rw [hsm] at hcv
        have HSM := Lib.hid hsm; clear hsm hSr
        go_wp2_with (at_builtin; refine push_one rfl (.tmp 60) (.tmp 64) 27 rfl (w.heap.size + 1) 9 (.string ⟨#[]⟩) 16 Tryd.underlying27 HST.out rfl _ _ _ _ _ rfl hown rfl rfl (by omega) (by omega) hsz ?_; intro v' v2 hown2 hb2; obtain ⟨A3, c3, rfl⟩ := own_form' hown2)
        obtain ⟨e1, e2⟩ := strs_snoc' o sm m HO.out.2
        rw [e1] at hown2
        have hsh : o ++ [sm] = Pl.sheet s := by rw [sheet_eq, HO.out.1, HSM.out]
        have hrow := row_any A3 (m + 1) c3 (o ++ [sm]) v2 (Rd.own hown2) (by omega) (by
          rw [hsh]
          have := sumLen_bound (Pl.sheet s) 32000 HK.out.2.2
          simp only [show (Pl.sheet s).length = 11 from rfl] at this
          omega)
        rw [hsh] at hrow
        have HRW := Lib.hid hrow; clear hrow hsh e1 e2 hown2
        (with_reducible refine HRW.out.mono ?_)
        rintro e v3 ⟨v, rfl, rfl, hb3⟩
        have hbf : Below w.heap.size w v3 := (hd7.trans ((hbV.trans hb2).mono (by omega))).trans (hb3.mono (Nat.le_trans (Nat.le_trans (by omega) hsz) (Below.size hb2)))
        go_wp2_with fail
        go_ret2
        exact ⟨_, rfl, by rw [HK.out.2.1]; rfl, hbf⟩
end Go.Proofs.YtadoplgmeoghmaaDoor
