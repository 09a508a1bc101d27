/- The walk of spread's Names, where the power lasts and fewer than three shelves told an error. -/
import Derived.Test.YtdnebgilkfafhaaGreatDoorSpN1
import Derived.Test.YtdnebgilkfafhaaGreatDoorSpR1
import Derived.Test.YtdnebgilkfafhaaGreatDoorNmP
import Derived.Test.YtdnebgilkfafhaaGreatDoorLib2
import Derived.Lib.OwnBridge
import Derived.Sort.OwnSorted
namespace Go.Proofs.YtdnebgilkfafhaaGreatDoor
open Go.RowKit
set_option linter.unusedVariables false
set_option linter.unusedSimpArgs false
attribute [local go_sem] ba_get ba_cut ba_add
/-- What a shelf of a store tells of its names. -/
def nmS (p : List UInt8) (S : Nat → Pl.Shelf) (i : Nat) : Pl.Shelf := ⟨(S i).objs, (Pl.namesA (S i).objs (S i).fates p).1⟩
def nmT (p : List UInt8) (S : Nat → Pl.Shelf) (i : Nat) : Pl.ToldN := ⟨(Pl.namesA (S i).objs (S i).fates p).2.1, (Pl.namesA (S i).objs (S i).fates p).2.2, false⟩
theorem acN_mono (t : Nat → Pl.ToldN) {j k : Nat} (h : j ≤ k) : (acN t j).length ≤ (acN t k).length := by
  induction k with
  | zero => rw [show j = 0 by omega]; exact Nat.le_refl _
  | succ k ih =>
    rcases Nat.lt_or_ge k j with h1 | h1
    · rw [show j = k + 1 by omega]; exact Nat.le_refl _
    · rw [acN_succ, List.length_append]; have := ih h1; omega
theorem SlAt.own {w : World} {base : Nat} {e : TypeId} {k : Nat} {A : Option Addr} {n c : Nat} {xs : List Value} (h : w.ownsRow base e k (.slice A n c) n xs) : SlAt w k A n c xs := by
  refine ⟨Rd.own h, ?_⟩
  obtain ⟨h0, ⟨hv, hn⟩ | ⟨g, cap, cur, hv, hb, hg, hr⟩⟩ := h
  · injection hv with h1 h2 h3
    subst h1 h3
    exact ⟨by omega, by decide, fun _ => rfl⟩
  · injection hv with h1 h2 h3
    subst h1 h3
    exact ⟨hr.1, Nat.le_trans hr.2.1 (by decide), fun h => by cases h⟩
theorem own_block {w : World} {base : Nat} {e : TypeId} {k : Nat} {A : Option Addr} {n c : Nat} {xs : List Value} (h : w.ownsRow base e k (.slice A n c) n xs) {T : Nat} (hT : T < base) : ∀ a, A = some a → a.block ≠ T := by
  rintro a rfl
  obtain ⟨h0, ⟨hv, hn⟩ | ⟨g, cap, cur, hv, hb, hg, hr⟩⟩ := h
  · cases hv
  · injection hv with h1 h2 h3
    injection h1 with h1
    subst h1
    show g ≠ T
    omega
theorem slAt_sets {w : World} {A : Option Addr} {n c : Nat} {l : List (List UInt8)} (h : SlAt w 1 A n c (strs l)) {T : Nat} {C : Array Value} (hT : w.heap[T]? = some (.cells C 33 (0, 0))) (hA : ∀ a, A = some a → a.block ≠ T) (i : Nat) (vs : List Value) : SlAt (w.setCells T i vs) 1 A n c (strs l) := by
  refine ⟨⟨h.1.1, fun hn => ?_⟩, h.2⟩
  obtain ⟨b, off, rfl, hlt, hc⟩ := h.1.2 hn
  have hbT : b ≠ T := hA _ rfl
  have hh := World.heap_setCells_other w T i vs hlt hbT
  refine ⟨b, off, rfl, ?_, fun j hj => (World.cell?_of_block hh).trans (hc j hj)⟩
  have h2 : w.heap[b]? = some w.heap[b] := Array.getElem?_eq_getElem hlt
  rw [h2] at hh
  exact blk_lt hh
open Go.RowKit Go.Lib Go.Sort in
theorem put_other {w : World} {g q k : Nat} {d : Array (List UInt8)} (h : g ≠ k) : (putRow encStr (Sort.ahead w q) g 0 d).heap[k]? = w.heap[k]? := by
  simp [putRow, mapBlock, Sort.ahead, Array.getElem?_modify, h]
theorem compact_own {W : World} {base g c : Nat} {SS : List (List UInt8)} (hown : W.ownsRow base 9 1 (.slice (some ⟨g, 0, none⟩) SS.length c) SS.length (SS.map encStr)) (hlp : 0 < SS.length) (hl : SS.length ≤ 8000000000000) :
    Calls Tryz.prog 55 #[.slice (some ⟨g, 0, none⟩) SS.length c] W (fun e w5 => e = .returned (.slice (some ⟨g, 0, none⟩) (Lib.compact SS).length c) ∧ w5.ownsRow base 9 1 (.slice (some ⟨g, 0, none⟩) (Lib.compact SS).length c) (Lib.compact SS).length ((Lib.compact SS).map encStr) ∧ (∀ k, g ≠ k → w5.heap[k]? = W.heap[k]?) ∧ ∀ B, B ≤ g → Below B W w5) := by
  obtain ⟨g2, cap2, hv2, -, hgl2, hnc2, hcm2, -, hH2⟩ := Lib.holds_of_ownsRow (enc := encStr) (zs := SS) hown (by
    intro h; injection h with _ h2 _; omega)
  injection hv2 with hA2 _ hcc2
  injection hA2 with hA2
  injection hA2 with hA2
  subst hA2 hcc2
  refine (Tryz.slices_Compact_string g 0 c SS W hH2 (by omega) (by omega)).mono ?_
  rintro e w5 ⟨rfl, q, hw5⟩
  have hcl := Lib.compact_length_le SS
  have hown5 : w5.ownsRow base 9 1 (.slice (some ⟨g, 0, none⟩) (Lib.compact SS).length c) (Lib.compact SS).length (((Lib.compact SS ++ List.replicate (SS.length - (Lib.compact SS).length) []).take (Lib.compact SS).length).map encStr) := by
    rw [hw5]
    exact Lib.ownsRow_putRow hown (by simp; omega) (by omega)
  rw [List.take_left' rfl] at hown5
  exact ⟨rfl, hown5, fun k hk => by rw [hw5]; exact put_other hk, fun B hB => by rw [hw5]; exact Lib.below_putRow (Below.refl _ _) hB⟩
theorem sort_own {W : World} {base g c : Nat} {LL : List (List UInt8)} (hown : W.ownsRow base 9 1 (.slice (some ⟨g, 0, none⟩) LL.length c) LL.length (strs LL)) (hlp : 0 < LL.length) (hl : LL.length ≤ 8000000000000) :
    Calls Tryz.prog 54 #[.slice (some ⟨g, 0, none⟩) LL.length c] W (fun e w4 => e = .returned (.tuple #[]) ∧ w4.ownsRow base 9 1 (.slice (some ⟨g, 0, none⟩) LL.length c) LL.length ((Pl.Nm.sortT LL).map encStr) ∧ W.grownBy w4 (some g)) := by
  have hown0 := hown
  obtain ⟨g2, cap, hv, hbg, hgl, hnc, hcm1, -, hH⟩ := Lib.holds_of_ownsRow (enc := encStr) (zs := LL) hown (by
    intro h; injection h with _ h2 _; omega)
  injection hv with hA _ hcc
  injection hA with hA
  injection hA with hA
  subst hA hcc
  refine (Tryz.slices_Sort_string g 0 c LL W hH hgl (by omega)).mono ?_
  rintro e w4 ⟨rfl, nn, os, hw4⟩
  have hso : (LL.mergeSort fun x y => decide (x ≤ y)).length = LL.length := List.length_mergeSort LL
  refine ⟨rfl, ?_, by rw [hw4]; exact grownBy_sorted _⟩
  rcases hown0.2 with ⟨e0, _⟩ | ⟨g', cap', cur, e0, hb, hg, h1, h2, h3, h4⟩
  · cases e0
  · injection e0 with e1 _ e3
    injection e1 with e1
    injection e1 with e1
    subst e1; subst e3
    rw [hw4]
    exact ownsRow_sorted hso hb hg h1 h2 h3
theorem own_sets {base : Nat} {v : Value} {n : Nat} {xs : List Value} {W : World} (h : W.ownsRow base 9 1 v n xs) {T : Nat} {C : Array Value} {t : TypeId} (hT : W.heap[T]? = some (.cells C t (0, 0))) (ht : t ≠ 9) (i : Nat) (vs : List Value) : (W.setCells T i vs).ownsRow base 9 1 v n xs := by
  obtain ⟨h0, h1 | ⟨g, cap, cur, e, hb, hg, hr⟩⟩ := h
  · exact ⟨h0, .inl h1⟩
  · have hgT : g ≠ T := fun he => by
      rw [he, hT] at hg
      injection hg with hg
      injection hg with _ hg
      exact ht hg
    exact ⟨h0, .inr ⟨g, cap, cur, e, hb, (World.heap_setCells_other W _ _ _ (blk_lt hg) hgT).trans hg, hr⟩⟩
set_option maxRecDepth 100000 in
set_option maxHeartbeats 4000000 in
theorem snames_any (S : Nat → Pl.Shelf) (X : Nat → ShX) (p : List UInt8) (w : World) (hok : StOk w S X) (hfit : FitS S) (hlen : (acN (nmT p S) 5).length ≤ 8000000000000) (hE : erN (nmT p S) 5 < 3) :
    Calls Tryz.prog 21 #[.agg (stoL S X (-1)).toArray, .string ⟨p.toArray⟩] w (RetB (fun v w' => ∃ X' A c, v = .tuple #[.agg (stoL (nmS p S) X' (-1)).toArray, .slice A (Pl.Nm.namesP (acN (nmT p S) 5)).length c, .int .i64 0] ∧ SlAt w' 1 A (Pl.Nm.namesP (acN (nmT p S) 5)).length c (strs (Pl.Nm.namesP (acN (nmT p S) 5)))) w) := by
  obtain ⟨N, hN⟩ : ∃ N, w.heap.size = N := ⟨_, rfl⟩
  obtain ⟨L, hL⟩ : ∃ L, stoL S X (-1) = L := ⟨_, rfl⟩
  have HIL : Hid ((Tryz.prog.info? 33).map (·.size) = some L.length) := by rw [← hL]; exact info_sto
  have HL := Lib.hid hL
  have HH := Lib.hid (And.intro hok (And.intro hlen hE))
  rw [hL]
  clear hL hok hlen hE
  go_enter Tryz.func21, Tryz.ntmps21
  go_upto_region 3 with (fail)
  try simp only [Nat.add_assoc, Nat.reduceAdd]
  rw [zero_sto]
  generalize hV : World.alloc _ (.cells #[.bool true] 4) = V
  have hVa : allocs w [.cells L.toArray 33, .cells #[.string ⟨p.toArray⟩] 9, .cells (stoL (fun _ => Pl.noSh) (fun _ => ⟨none, 0, none, 0⟩) 0).toArray 33, .cells #[.slice none 0 0] 22, .cells #[.int .i64 0] 3, .cells #[.bool true] 4] = V := hV
  have hbV : Below N w V := by rw [← hVa]; exact allocs_below w _ N (by omega)
  have hsV : V.heap.size = N + 6 := by rw [← hVa, allocs_size, hN]; simp only [List.length_cons, List.length_nil]
  have h0 : StBx N S X (-1) V := by unfold StBx; rw [HL.out]; exact allocs_at hVa hN 0 rfl
  have h2 : StBx (N + 2) (fun _ => Pl.noSh) (fun _ => ⟨none, 0, none, 0⟩) 0 V := allocs_at hVa hN 2 rfl
  have hJ0 : NmJ (N + 5) (N + 1) (N + 4) (N + 3) (N + 3) p (nmT p S) 0 V := ⟨allocs_at hVa hN 1 rfl, allocs_at hVa hN 5 rfl, allocs_at hVa hN 4 rfl, none, 0, allocs_at hVa hN 3 rfl, World.ownsRow_nil _ _ _ _⟩
  have hst : StOk V S X := HH.out.1.below (by rw [hN]; exact hbV)
  have hall := all_any 52 #[.pointer (some ⟨N + 5, 0, none⟩), .pointer (some ⟨N + 1, 0, none⟩), .pointer (some ⟨N + 4, 0, none⟩), .pointer (some ⟨N + 3, 0, none⟩)] S (nmS p S) X (-1) (by unfold Pl.I64; omega) V (N + 3) (fun g => g = N + 5 ∨ g = N + 4 ∨ g = N + 3) (NmJ (N + 5) (N + 1) (N + 4) (N + 3) (N + 3) p (nmT p S)) hst hfit (by omega) (fun g hg => by omega)
    (fun a b c W => by kernel_rfl) (fun k W W' hj hk => hj.kpa hk (by omega) (by omega) (by omega) (by omega)) hJ0
    (fun k hk W x hs hb hj hx => by
      have h := names1_any (N + 5) (N + 1) (N + 4) (N + 3) (N + 3) p (nmT p S) k hk (S k) x V.heap.size W hs hj hx (hfit k hk) (by omega) (by omega) (by omega) (by omega) (by omega) (by omega) (by omega) (by omega) (by omega) (by omega) rfl (Nat.le_trans (acN_mono _ (by omega)) HH.out.2.1)
      rw [Pl.leftAt_neg]
      exact h)
  rw [HL.out, Pl.leftAt_neg] at hall
  have HA := Lib.hid hall
  have hrg : V.rangeAt N 0 L := by rw [← HL.out]; exact h0.range
  have HB := Lib.hid (And.intro hrg (And.intro h0 (And.intro h2 hbV)))
  clear hall hrg h0 h2 hbV hJ0 hst hV hVa
  go_upto_region 4 with first
    | with_reducible refine wpList_load_mid rfl 33 _ rfl N 0 rfl L _ HB.out.1 Tryz.underlying33 rfl HIL.out ?_
    | (with_reducible refine HA.out.mono ?_)
  rintro e w2 ⟨X2, rfl, hst2, hJ2, hb2, hk2⟩
  obtain ⟨L2, hL2⟩ : ∃ L2, stoL (nmS p S) X2 (-1) = L2 := ⟨_, rfl⟩
  obtain ⟨LL, hLL⟩ : ∃ LL, acN (nmT p S) 5 = LL := ⟨_, rfl⟩
  obtain ⟨er, her⟩ : ∃ er, erN (nmT p S) 5 = er := ⟨_, rfl⟩
  obtain ⟨A, c, hl1, hl2⟩ := hJ2.l
  have hpw := hJ2.pw
  have hes := hJ2.es
  rw [hLL] at hl1 hl2
  rw [her] at hes
  have her3 : er < 3 := by rw [← her]; exact HH.out.2.2
  have hLl : LL.length ≤ 8000000000000 := by rw [← hLL]; exact HH.out.2.1
  have h02 : StBx N S X (-1) w2 := (hb2.block N (by omega)).trans HB.out.2.1
  have h22 : StBx (N + 2) (fun _ => Pl.noSh) (fun _ => ⟨none, 0, none, 0⟩) 0 w2 := (hb2.block (N + 2) (by omega)).trans HB.out.2.2.1
  have hT2 : w2.there N 0 L2.toArray.size := thereL h02 (by rw [← hL2]; exact Nat.le_refl 11)
  have hi2 : (Tryz.prog.info? 33).map (·.size) = some L2.toArray.size := by rw [List.size_toArray, ← hL2]; exact info_sto
  have hi2' : (Tryz.prog.info? 33).map (·.size) = some L2.length := by rw [← hL2]; exact info_sto
  have ho2 : ∀ v ∈ L2, v.oneCell' = true := by rw [← hL2]; exact stoL_one _ X2 _
  have hl2l : L2.length = 11 := by rw [← hL2]; rfl
  rw [hL2]
  have hset : (w2.setCells N 0 L2).heap[N]? = some (.cells L2.toArray 33 (0, 0)) := heap_setCells_all h02 (by rw [← hL2]; rfl)
  have hot : ∀ g, g ≠ N → g < w2.heap.size → (w2.setCells N 0 L2).heap[g]? = w2.heap[g]? := fun g hg hs => World.heap_setCells_other _ _ _ _ hs hg
  have h23 := (hot (N + 2) (by omega) (blk_lt h22)).trans h22
  have hpw3 := (hot (N + 5) (by omega) (blk_lt hpw)).trans hpw
  have hes3 := (hot (N + 4) (by omega) (blk_lt hes)).trans hes
  have hl13 := (hot (N + 3) (by omega) (blk_lt hl1)).trans hl1
  have hl23 := own_sets hl2 h02 (by decide) 0 L2
  have hb3 : Below N w (w2.setCells N 0 L2) := (HB.out.2.2.2.trans (hb2.mono (by omega))).trans (Lib.below_setCells_w (Nat.le_refl N) L2 0 w2)
  have HC := Lib.hid (And.intro hset (And.intro h23 (And.intro hl13 (And.intro hl23 (And.intro hb3 hL2)))))
  have HLL := Lib.hid hLL
  clear hset hot h23 hl13 hl23 hb3 hL2 hpw hes hl1 hl2 h02 h22 hb2 hk2 hst2 hJ2 HA hLL her
  go_upto_region 4 with first
    | with_reducible refine wpList_store_mid rfl 33 _ _ rfl N 0 L2.toArray rfl rfl hT2 hi2 (all_oneCell_toArray ho2) ?_
  obtain ⟨w3, hw3⟩ : ∃ w3, w2.setCells N 0 L2 = w3 := ⟨_, rfl⟩
  rw [hw3] at HC hpw3 hes3
  simp only [hw3]
  clear hw3 hT2
  have c5 : w3.cell? ⟨N + 5, 0, none⟩ = some (.bool true) := by rw [cell_row w3 (N + 5) 0 _ _ hpw3]; rfl
  have c4 : w3.cell? ⟨N + 4, 0, none⟩ = some (.int .i64 (er : Int)) := by rw [cell_row w3 (N + 4) 0 _ _ hes3]; rfl
  have c3 : w3.cell? ⟨N + 3, 0, none⟩ = some (.slice A LL.length c) := by rw [cell_row w3 (N + 3) 0 _ _ HC.out.2.2.1]; rfl
  have g3 : decide ((3 : Int) ≤ (er : Int)) = false := decide_eq_false (by omega)
  have g3' : decide (3 ≤ er) = false := decide_eq_false (by omega)
  clear hpw3 hes3
  by_cases hL0 : LL = []
  · have hll : LL.length = 0 := by rw [hL0]; rfl
    have hcm0 := fun W => Tryz.slices_Compact_string_empty A c W
    rw [← hll] at hcm0
    have hso0 := Tryz.slices_Sort_string_none A c w3
    rw [← hll] at hso0
    have HSO := Lib.hid hso0
    have hQ0 : Pl.Nm.namesP LL = [] := List.eq_nil_iff_forall_not_mem.2 fun x hx => by rw [Pl.Nm.namesP_mem, hL0] at hx; cases hx
    have hQ1 : (Pl.Nm.namesP LL).length = LL.length := by rw [hQ0, hL0]
    have hsl3 : SlAt w3 1 A LL.length c (strs LL) := SlAt.own HC.out.2.2.2.1
    have HQ0 := Lib.hid (And.intro hQ0 (And.intro hQ1 hsl3))
    have HL0 := Lib.hid hL0
    have HCM0 := Lib.hid hcm0
    clear hso0 hQ0 hQ1 hsl3 hll hL0 hcm0
    go_upto_region 9 with (with_reducible refine HSO.out.mono ?_)
    rintro _ w4 ⟨rfl, hw4⟩
    subst hw4
    have h4N := HC.out.1
    have h42 := HC.out.2.1
    have c34 := c3
    have h4N3 := HC.out.2.2.1
    have HB4 := Lib.hid HC.out.2.2.2.2.1
    have hcm : Calls Tryz.prog 55 #[.slice A LL.length c] w4.drew (fun e w5 => e = .returned (.slice A (Pl.Nm.namesP LL).length c) ∧ SlAt w5 1 A (Pl.Nm.namesP LL).length c (strs (Pl.Nm.namesP LL)) ∧ w5.heap[N]? = w4.heap[N]? ∧ w5.heap[N + 2]? = w4.heap[N + 2]? ∧ w5.heap[N + 3]? = w4.heap[N + 3]? ∧ Below N w4 w5) := by
      refine (HCM0.out w4.drew).mono ?_
      rintro e w5 ⟨rfl, rfl⟩
      refine ⟨by rw [HQ0.out.2.1], ?_, rfl, rfl, rfl, (Below.refl _ _).drew⟩
      rw [HQ0.out.2.1, HQ0.out.1, ← HL0.out]
      exact HQ0.out.2.2.below (Below.refl _ _).drew
    have HCM := Lib.hid hcm
    clear hcm c4 c5
    have hA5 : ∀ a, A = some a → a.block ≠ N + 2 := own_block HC.out.2.2.2.1 (by omega)
    go_wp2_with fail
    have hr4 : w4.rangeAt N 0 L2 := rangeL h4N
    refine wp_region_held_drew (S := (fun w' => w'.rangeAt N 0 L2 ∧ w'.cell? ⟨N + 3, 0, none⟩ = some (.slice A LL.length c))) (by kernel_rfl) (by exact ⟨hr4, c34⟩) (fun hHeld => ?_)
    refine wpAnyH_take (i := 0) (v := .agg (L2).toArray) rfl (by kernel_rfl) (by kernel_rfl) (by kernel_rfl) (fun _ _ _ h => h) (yieldsIf_load_mid (by kernel_rfl) 33 _ rfl (N) (0) rfl L2 _ (fun _ h => h.1) Tryz.underlying33 rfl hi2') hHeld ?_
    simp only [Act.put, lay9]
    refine tk 1 (v := ?_) rfl ?_ hHeld ?_
    rotate_left
    · (intro w' hSw; (try dsimp only at hSw); (try obtain ⟨hS0, hS1⟩ := hSw); go_simp; try with_reducible rfl)
    simp only [Act.put, lay9]
    refine wpAnyH_ready (rs := [2]) (by kernel_rfl) (by simp) (AllReadyH.cons rfl (fun K hK => ?_) AllReadyH.nil)
    go_simp
    (with_reducible refine HCM.out.mono ?_)
    rintro _ w5 ⟨rfl, hsl5, e0, e2, e3, hb5⟩
    have h5N := e0.trans h4N
    have h52 := e2.trans h42
    have c35 : w5.cell? ⟨N + 3, 0, none⟩ = some (.slice A LL.length c) := (World.cell?_of_block e3).trans c34
    refine hK.out _ _ ⟨rangeL h5N, c35⟩ (fun hHeld => ?_)
    clear hK K
    (try simp only [Act.put, lay9])
    refine wpAnyH_ready (rs := [3]) (by kernel_rfl) (by simp) (AllReadyH.cons rfl (fun K hK => ?_) AllReadyH.nil)
    have hT5 : w5.there (N + 2) 0 L2.toArray.size := thereL h52 (by rw [List.size_toArray, hl2l]; exact Nat.le_refl 11)
    refine wp_store_mid 33 _ _ rfl (N + 2) 0 L2.toArray rfl rfl hT5 hi2 (all_oneCell_toArray ho2) ?_
    have hs5 : N + 3 < w5.heap.size := by
      have h := (World.cell?_of_block e3).trans c34
      rcases Nat.lt_or_ge (N + 3) w5.heap.size with h1 | h1
      · exact h1
      · have h2 := h4N3; rw [← e3, Array.getElem?_eq_none h1] at h2; cases h2
    have hot5 : ∀ g, g ≠ N + 2 → g < w5.heap.size → (w5.setCells (N + 2) 0 L2).heap[g]? = w5.heap[g]? := fun g hg hs => World.heap_setCells_other w5 _ _ _ hs hg
    have h6N := (hot5 N (by omega) (by omega)).trans h5N
    have c36 : (w5.setCells (N + 2) 0 L2).cell? ⟨N + 3, 0, none⟩ = some (.slice A LL.length c) := (World.cell?_of_block (hot5 (N + 3) (by omega) hs5)).trans c35
    refine hK.out _ _ ⟨rangeL h6N, c36⟩ (fun hHeld => ?_)
    clear hK K
    (try simp only [Act.put, lay9])
    refine tk 4 (v := ?_) rfl ?_ hHeld ?_
    rotate_left
    · (intro w' hSw; (try dsimp only at hSw); go_simp; try with_reducible rfl)
    simp only [Act.put, lay9]
    refine tk 5 (v := ?_) rfl ?_ hHeld ?_
    rotate_left
    · (intro w' hSw; (try dsimp only at hSw); go_simp; try with_reducible rfl)
    simp only [Act.put, lay9]
    refine wpAnyH_done (by kernel_rfl) ?_ _
    clear hHeld
    have hb6 : Below N w (w5.setCells (N + 2) 0 L2) := (HB4.out.trans hb5).trans (Lib.below_setCells_w (by omega) L2 0 w5)
    have hsl6 := slAt_sets hsl5 h52 hA5 0 L2
    have hr6 := World.rangeAt_setCells_same w5 (N + 2) 0 L2 (by simpa using hT5)
    have HZ := Lib.hid (And.intro hb6 hsl6)
    clear hb6 hsl6
    go_wp2_with fail
    refine bodyPost_ret (v := .tuple #[.agg L2.toArray, .slice A (Pl.Nm.namesP LL).length c, .int .i64 0]) (results_stt (B := N + 2) rfl rfl rfl rfl hr6 hi2') rfl ?_
    rw [HLL.out]
    exact ⟨_, rfl, ⟨X2, A, c, by rw [HC.out.2.2.2.2.2], HZ.out.2⟩, by rw [hN]; exact HZ.out.1⟩
  · have hlp : 0 < LL.length := List.length_pos_iff.2 hL0
    have hown := HC.out.2.2.2.1
    obtain ⟨g, rfl⟩ : ∃ g, A = some ⟨g, 0, none⟩ := by
      rcases hown.2 with ⟨h1, h2⟩ | ⟨g, cap, cur, h1, h2⟩
      · omega
      · injection h1 with h1 _ _; exact ⟨g, h1⟩
    have hbg : N + 3 ≤ g := by
      rcases hown.2 with ⟨h1, h2⟩ | ⟨g', cap, cur, h1, h2, h3⟩
      · omega
      · injection h1 with h1 _ _
        injection h1 with h1
        injection h1 with h1
        omega
    have HSO := Lib.hid (sort_own hown hlp hLl)
    have HG := Lib.hid (And.intro hown (And.intro hbg hlp))
    clear hown hbg hL0 hlp
    go_upto_region 9 with (with_reducible refine HSO.out.mono ?_)
    intro e4 w4 hp4
    obtain ⟨he4, hown2, hgr⟩ := hp4
    subst he4
    have hne : ∀ {T : Nat} {C : Array Value} {t : TypeId}, w3.heap[T]? = some (.cells C t (0, 0)) → t ≠ 9 → w4.heap[T]? = some (.cells C t (0, 0)) := fun hT ht => (hgr.block _ (blk_lt hT) (own_ne HG.out.1 hT ht)).trans hT
    have h4N := hne HC.out.1 (by decide)
    have h42 := hne HC.out.2.1 (by decide)
    have h4N3 := hne HC.out.2.2.1 (by decide)
    have c34 : w4.cell? ⟨N + 3, 0, none⟩ = some (.slice (some ⟨g, 0, none⟩) LL.length c) := by rw [cell_row w4 (N + 3) 0 _ _ h4N3]; rfl
    have HB4 := Lib.hid (HC.out.2.2.2.2.1.grown hgr (by have := HC.out.2.2.2.2.1.size; omega) (fun j hj => by cases hj; have := HG.out.2.1; omega))
    have hso : (Pl.Nm.sortT LL).length = LL.length := Pl.Nm.sortT_len LL
    have hown4 := own_below hown2 (Below.refl w4.heap.size w4).drew
    obtain ⟨SS, hS⟩ : ∃ SS, Pl.Nm.sortT LL = SS := ⟨_, rfl⟩
    have hnP : Pl.Nm.namesP LL = Lib.compact SS := by unfold Pl.Nm.namesP; rw [hS]
    rw [hS] at hso hown4
    rw [← hso] at hown4
    have hcp := compact_own hown4 (by have := HG.out.2.2; omega) (by omega)
    rw [hso] at hcp
    have hg3 : g ≠ N + 3 := fun h => own_ne HG.out.1 HC.out.2.2.1 (by decide) (by rw [← h]; rfl)
    have hgb := HG.out.2.1
    have hcm : Calls Tryz.prog 55 #[.slice (some ⟨g, 0, none⟩) LL.length c] w4.drew (fun e w5 => e = .returned (.slice (some ⟨g, 0, none⟩) (Pl.Nm.namesP LL).length c) ∧ SlAt w5 1 (some ⟨g, 0, none⟩) (Pl.Nm.namesP LL).length c (strs (Pl.Nm.namesP LL)) ∧ w5.heap[N]? = w4.heap[N]? ∧ w5.heap[N + 2]? = w4.heap[N + 2]? ∧ w5.heap[N + 3]? = w4.heap[N + 3]? ∧ Below N w4 w5) := by
      refine hcp.mono ?_
      rintro e w5 ⟨rfl, hown5, ho5, hb5⟩
      rw [hnP]
      exact ⟨rfl, SlAt.own hown5, ho5 N (by omega), ho5 (N + 2) (by omega), ho5 (N + 3) hg3, (Below.refl N w4).drew.trans (hb5 N (by omega))⟩
    have HCM := Lib.hid hcm
    have hA5 : ∀ a, (some ⟨g, 0, none⟩ : Option Addr) = some a → a.block ≠ N + 2 := own_block HG.out.1 (by omega)
    clear hcm hcp hown4 hnP hown2 hS hso hgr hne c3 c4 c5 hg3 hgb
    go_wp2_with fail
    have hr4 : w4.rangeAt N 0 L2 := rangeL h4N
    refine wp_region_held_drew (S := (fun w' => w'.rangeAt N 0 L2 ∧ w'.cell? ⟨N + 3, 0, none⟩ = some (.slice (some ⟨g, 0, none⟩) LL.length c))) (by kernel_rfl) (by exact ⟨hr4, c34⟩) (fun hHeld => ?_)
    refine wpAnyH_take (i := 0) (v := .agg (L2).toArray) rfl (by kernel_rfl) (by kernel_rfl) (by kernel_rfl) (fun _ _ _ h => h) (yieldsIf_load_mid (by kernel_rfl) 33 _ rfl (N) (0) rfl L2 _ (fun _ h => h.1) Tryz.underlying33 rfl hi2') hHeld ?_
    simp only [Act.put, lay9]
    refine tk 1 (v := ?_) rfl ?_ hHeld ?_
    rotate_left
    · (intro w' hSw; (try dsimp only at hSw); (try obtain ⟨hS0, hS1⟩ := hSw); go_simp; try with_reducible rfl)
    simp only [Act.put, lay9]
    refine wpAnyH_ready (rs := [2]) (by kernel_rfl) (by simp) (AllReadyH.cons rfl (fun K hK => ?_) AllReadyH.nil)
    go_simp
    (with_reducible refine HCM.out.mono ?_)
    rintro _ w5 ⟨rfl, hsl5, e0, e2, e3, hb5⟩
    have h5N := e0.trans h4N
    have h52 := e2.trans h42
    have c35 : w5.cell? ⟨N + 3, 0, none⟩ = some (.slice (some ⟨g, 0, none⟩) LL.length c) := (World.cell?_of_block e3).trans c34
    refine hK.out _ _ ⟨rangeL h5N, c35⟩ (fun hHeld => ?_)
    clear hK K
    (try simp only [Act.put, lay9])
    refine wpAnyH_ready (rs := [3]) (by kernel_rfl) (by simp) (AllReadyH.cons rfl (fun K hK => ?_) AllReadyH.nil)
    have hT5 : w5.there (N + 2) 0 L2.toArray.size := thereL h52 (by rw [List.size_toArray, hl2l]; exact Nat.le_refl 11)
    refine wp_store_mid 33 _ _ rfl (N + 2) 0 L2.toArray rfl rfl hT5 hi2 (all_oneCell_toArray ho2) ?_
    have hs5 : N + 3 < w5.heap.size := by
      have h := (World.cell?_of_block e3).trans c34
      rcases Nat.lt_or_ge (N + 3) w5.heap.size with h1 | h1
      · exact h1
      · have h2 := h4N3; rw [← e3, Array.getElem?_eq_none h1] at h2; cases h2
    have hot5 : ∀ g, g ≠ N + 2 → g < w5.heap.size → (w5.setCells (N + 2) 0 L2).heap[g]? = w5.heap[g]? := fun g hg hs => World.heap_setCells_other w5 _ _ _ hs hg
    have h6N := (hot5 N (by omega) (by omega)).trans h5N
    have c36 : (w5.setCells (N + 2) 0 L2).cell? ⟨N + 3, 0, none⟩ = some (.slice (some ⟨g, 0, none⟩) LL.length c) := (World.cell?_of_block (hot5 (N + 3) (by omega) hs5)).trans c35
    refine hK.out _ _ ⟨rangeL h6N, c36⟩ (fun hHeld => ?_)
    clear hK K
    (try simp only [Act.put, lay9])
    refine tk 4 (v := ?_) rfl ?_ hHeld ?_
    rotate_left
    · (intro w' hSw; (try dsimp only at hSw); go_simp; try with_reducible rfl)
    simp only [Act.put, lay9]
    refine tk 5 (v := ?_) rfl ?_ hHeld ?_
    rotate_left
    · (intro w' hSw; (try dsimp only at hSw); go_simp; try with_reducible rfl)
    simp only [Act.put, lay9]
    refine wpAnyH_done (by kernel_rfl) ?_ _
    clear hHeld
    have hb6 : Below N w (w5.setCells (N + 2) 0 L2) := (HB4.out.trans hb5).trans (Lib.below_setCells_w (by omega) L2 0 w5)
    have hsl6 := slAt_sets hsl5 h52 hA5 0 L2
    have hr6 := World.rangeAt_setCells_same w5 (N + 2) 0 L2 (by simpa using hT5)
    have HZ := Lib.hid (And.intro hb6 hsl6)
    clear hb6 hsl6
    go_wp2_with fail
    refine bodyPost_ret (v := .tuple #[.agg L2.toArray, .slice (some ⟨g, 0, none⟩) (Pl.Nm.namesP LL).length c, .int .i64 0]) (results_stt (B := N + 2) rfl rfl rfl rfl hr6 hi2') rfl ?_
    rw [HLL.out]
    exact ⟨_, rfl, ⟨X2, some ⟨g, 0, none⟩, c, by rw [HC.out.2.2.2.2.2], HZ.out.2⟩, by rw [hN]; exact HZ.out.1⟩
end Go.Proofs.YtdnebgilkfafhaaGreatDoor
