/- The walk of spread's partRow. The walks of spread's Write and Post. The walk of spread's Write. -/
import Derived.Test.YtdnebgilkfafhaaGreatDoorSpMem
import Derived.Test.YtdnebgilkfafhaaGreatDoorHashK
import Derived.Test.YtdnebgilkfafhaaGreatDoorNumW4
import Derived.Test.YtdnebgilkfafhaaGreatDoorPaC
import Derived.Test.YtdnebgilkfafhaaGreatDoorSpPl
namespace Go.Proofs.YtdnebgilkfafhaaGreatDoor
open Go.RowKit
set_option linter.unusedVariables false
set_option linter.unusedSimpArgs false
attribute [local go_sem] ba_get ba_cut ba_add
/-- What the package variables that spread reads hold. -/
structure VSp (w : World) : Prop where
  num : VNum w
  hash : VHash w
theorem VSp.below {w w' : World} (h : VSp w) (hb : Below w.heap.size w w') : VSp w' := ⟨h.num.below hb, h.hash.below hb⟩
/-- A block holds a digest. -/
def DigAt (B : Nat) (l : List UInt8) (W : World) : Prop := W.heap[B]? = some (.cells (u8s l).toArray 42 (0, 0))
theorem DigAt.keep {B : Nat} {l : List UInt8} {W W' : World} (h : DigAt B l W) (hb : Below W.heap.size W W') : DigAt B l W' := keepB h hb
theorem dig_conv {B : Nat} {l : List UInt8} {W : World} (h : DigAt B l W) (hl : l.length = 32) : (convert 138 9 (.slice (some ⟨B, 0, none⟩) 32 32)).run Tryz.prog W = .ok (.string ⟨l.toArray⟩) W :=
  bytes_conv W B 0 32 32 l hl (fun j hj => by rw [cell_row W B (0 + j) _ _ h]; simp [u8s, hj])
theorem info_dg : (Tryz.prog.info? 42).map (·.size) = some 32 := by kernel_rfl
abbrev z32 : Array Value := #[.int .u8 0, .int .u8 0, .int .u8 0, .int .u8 0, .int .u8 0, .int .u8 0, .int .u8 0, .int .u8 0, .int .u8 0, .int .u8 0, .int .u8 0, .int .u8 0, .int .u8 0, .int .u8 0, .int .u8 0, .int .u8 0, .int .u8 0, .int .u8 0, .int .u8 0, .int .u8 0, .int .u8 0, .int .u8 0, .int .u8 0, .int .u8 0, .int .u8 0, .int .u8 0, .int .u8 0, .int .u8 0, .int .u8 0, .int .u8 0, .int .u8 0, .int .u8 0]
theorem z32_eq : z32 = (u8s (List.replicate 32 0)).toArray := rfl
theorem sum_len (l : List (List UInt8)) : (Pl.sumB l).length = 32 := by unfold Pl.sumB; rw [Pl.digest_len]
set_option maxRecDepth 100000 in
set_option maxHeartbeats 4000000 in
theorem partRow_any (nm d sum : List UInt8) (z p : Nat) (hz : z ≤ 1000000) (hp : p ≤ 1000000) (hnm : nm.length ≤ 1000000) (hd : d.length ≤ 1000000) (hs : sum.length = 32) (w : World) (hv : VSp w) :
    Calls Tryz.prog 36 #[.string ⟨nm.toArray⟩, .int .i64 (z : Int), .int .i64 (p : Int), .agg (u8s sum).toArray, .string ⟨d.toArray⟩] w (RetB (fun v _ => v = .string ⟨(Pl.partRow nm z p sum d).toArray⟩) w) := by
  obtain ⟨R, hR⟩ : ∃ R, Pl.partRow nm z p sum d = R := ⟨_, rfl⟩
  rw [hR]
  unfold Pl.partRow at hR
  obtain ⟨own, hown⟩ : ∃ own, Pl.sumB [d] = own := ⟨_, rfl⟩
  have hol : own.length = 32 := by rw [← hown]; exact sum_len _
  rw [hown] at hR
  obtain ⟨Ls, hLs⟩ : ∃ Ls, u8s sum = Ls := ⟨_, rfl⟩
  have HLs := Lib.hid hLs
  rw [hLs]
  have HH := Lib.hid (And.intro hR (And.intro hown (And.intro hol (And.intro hs hv))))
  clear hR hown hol hs hLs hv
  go_enter Tryz.func36, Tryz.ntmps36
  go_upto_region 1 with (fail)
  obtain ⟨N, hN⟩ : ∃ N, w.heap.size = N := ⟨_, rfl⟩
  generalize hV : World.alloc w _ = V
  have hbV : Below N w V := by rw [← hV, ← hN]; exact (Below.refl _ _).alloc (Nat.le_refl _) _
  have h0 : DigAt N sum V := by rw [← hV, ← hN]; unfold DigAt; rw [show u8s sum = Ls from HLs.out]; exact heap_alloc_new w _
  have hsV : V.heap.size = N + 1 := by rw [← hV]; simp [hN]
  simp only [hN]
  clear hV
  have hsum : Calls Tryz.prog 34 #[.slice (some ⟨V.heap.size, 0, none⟩) 1 1] (V.alloc (.cells #[.string ⟨d.toArray⟩] 9)) _ := sum_any (some ⟨V.heap.size, 0, none⟩) [d] 1 (fun q hq => by rw [List.mem_singleton.1 hq]; omega) (by simp) (V.alloc (.cells #[.string ⟨d.toArray⟩] 9)) (Rd.new V [.string ⟨d.toArray⟩] 9) ((HH.out.2.2.2.2.below (by rw [hN]; exact hbV)).hash.below ((Below.refl _ _).alloc (Nat.le_refl _) _))
  rw [HH.out.2.1, hsV] at hsum
  obtain ⟨Lo, hLo⟩ : ∃ Lo, u8s own = Lo := ⟨_, rfl⟩
  rw [hLo] at hsum
  have hio : (Tryz.prog.info? 42).map (·.size) = some Lo.toArray.size := by rw [List.size_toArray, ← hLo, u8s_len, HH.out.2.2.1]; kernel_rfl
  have hoo : ∀ v ∈ Lo, v.oneCell' = true := by rw [← hLo]; exact u8s_one own
  have HS := Lib.hid (And.intro hsum (And.intro hio (And.intro hoo (And.intro hLo (And.intro h0 hbV)))))
  clear hio hoo hLo h0 hbV
  go_upto_region 2 with first
    | (with_reducible refine HS.out.1.mono ?_)
  rintro e w2 ⟨rfl, hb2⟩
  have hbA : Below V.heap.size V (V.alloc (.cells #[.string ⟨d.toArray⟩] 9)) := (Below.refl _ _).alloc (Nat.le_refl _) _
  have hb2' : Below N w w2 := (HS.out.2.2.2.2.2.trans (hbA.mono (by omega))).trans (hb2.mono (by simp; omega))
  have h02 := (HS.out.2.2.2.2.1.keep hbA).keep hb2
  have hsz2 : N + 2 ≤ w2.heap.size := by have := hb2.size; simp at this; omega
  have HT := Lib.hid (show (w2.alloc (.cells z32 42)).there w2.heap.size 0 Lo.toArray.size from thereL (heap_alloc_new w2 _) (by rw [z32_eq, List.size_toArray, List.size_toArray, ← HS.out.2.2.2.1, u8s_len, u8s_len, HH.out.2.2.1]; simp))
  clear hsum
  go_upto_region 2 with (with_reducible refine wpList_store_mid rfl 42 _ _ rfl w2.heap.size 0 Lo.toArray rfl rfl HT.out HS.out.2.1 (all_oneCell_toArray HS.out.2.2.1) ?_)
  obtain ⟨M, hM⟩ : ∃ M, w2.heap.size = M := ⟨_, rfl⟩
  have hown3 : DigAt M own ((w2.alloc (.cells z32 42)).setCells M 0 Lo) := by
    unfold DigAt
    rw [HS.out.2.2.2.1, ← hM]
    exact heap_setCells_all (C := u8s (List.replicate 32 0)) (heap_alloc_new w2 _) (by rw [← HS.out.2.2.2.1, u8s_len, u8s_len, HH.out.2.2.1]; simp)
  have hb23 : Below M w2 ((w2.alloc (.cells z32 42)).setCells M 0 Lo) := ((Below.refl _ _).alloc (by omega) _).trans (Lib.below_setCells_w (Nat.le_refl _) Lo 0 _)
  have hsum3 : DigAt N sum ((w2.alloc (.cells z32 42)).setCells M 0 Lo) := (hb23.block N (by omega)).trans h02
  have hbw3 : Below N w ((w2.alloc (.cells z32 42)).setCells M 0 Lo) := hb2'.trans (hb23.mono (by omega))
  simp only [hM]
  generalize hw3 : World.setCells _ M 0 _ = w3
  rw [show (World.setCells (World.alloc w2 (.cells z32 42)) M 0 Lo) = w3 from hw3] at hown3 hsum3 hbw3
  have hv3 := HH.out.2.2.2.2.below (by rw [hN]; exact hbw3)
  have hsM : M < w3.heap.size := blk_lt hown3
  have HV3 := Lib.hid (And.intro hown3 (And.intro hsum3 (And.intro hbw3 hv3)))
  have hs32 := HH.out.2.2.2.1
  have ho32 := HH.out.2.2.1
  clear hown3 hb23 hsum3 hbw3 hw3 hb2 hbA hb2' h02 HT HS hv3
  obtain ⟨tz, htz⟩ : ∃ tz, Lib.itoa (z : Int) = tz := ⟨_, rfl⟩
  obtain ⟨tp, htp⟩ : ∃ tp, Lib.itoa (p : Int) = tp := ⟨_, rfl⟩
  have hlz := (Pl.itoa_len (v := (z : Int)) ⟨by omega, by omega⟩).2
  have hlp := (Pl.itoa_len (v := (p : Int)) ⟨by omega, by omega⟩).2
  have hdz := fun W h => dec_any (z : Int) W ⟨by omega, by omega⟩ h
  have hdp := fun W h => dec_any (p : Int) W ⟨by omega, by omega⟩ h
  rw [htz] at hlz hdz
  rw [htp] at hlp hdp
  have HD := Lib.hid (And.intro hdz (And.intro hdp (And.intro htz htp)))
  clear hdz hdp htz htp
  refine wp_region_held_drew (S := (fun w' => DigAt N sum w' ∧ DigAt M own w')) (by kernel_rfl) (by exact ⟨HV3.out.2.1, HV3.out.1⟩) (fun hHeld => ?_)
  refine tk 0 (v := ?_) rfl ?_ hHeld ?_
  rotate_left
  · (intro w' hSw; (try dsimp only at hSw); (try obtain ⟨hS0, hS1⟩ := hSw); go_simp; try with_reducible rfl)
  simp only [Act.put, lay9]
  refine tk 1 (v := ?_) rfl ?_ hHeld ?_
  rotate_left
  · (intro w' hSw; (try dsimp only at hSw); (try obtain ⟨hS0, hS1⟩ := hSw); go_simp; try with_reducible rfl)
  simp only [Act.put, lay9]
  refine tk 3 (v := ?_) rfl ?_ hHeld ?_
  rotate_left
  · (intro w' hSw; (try dsimp only at hSw); (try obtain ⟨hS0, hS1⟩ := hSw); go_simp; try with_reducible rfl)
  simp only [Act.put, lay9]
  refine tk 5 (v := ?_) rfl ?_ hHeld ?_
  rotate_left
  · (intro w' hSw; (try dsimp only at hSw); (try obtain ⟨hS0, hS1⟩ := hSw); go_simp; try with_reducible rfl)
  simp only [Act.put, lay9]
  refine tk 7 (v := ?_) rfl ?_ hHeld ?_
  rotate_left
  · (intro w' hSw; (try dsimp only at hSw); (try obtain ⟨hS0, hS1⟩ := hSw); go_simp; try with_reducible rfl)
  simp only [Act.put, lay9]
  refine tk 9 (v := ?_) rfl ?_ hHeld ?_
  rotate_left
  · (intro w' hSw; (try dsimp only at hSw); (try obtain ⟨hS0, hS1⟩ := hSw); go_simp; try with_reducible rfl)
  simp only [Act.put, lay9]
  refine tk 6 (v := ?_) rfl ?_ hHeld ?_
  rotate_left
  · (intro w' hSw; (try dsimp only at hSw); have hcv := dig_conv hSw.1 hs32; go_simp; try with_reducible rfl)
  simp only [Act.put, lay9]
  refine tk 8 (v := ?_) rfl ?_ hHeld ?_
  rotate_left
  · (intro w' hSw; (try dsimp only at hSw); have hcv := dig_conv hSw.2 ho32; go_simp; try with_reducible rfl)
  simp only [Act.put, lay9]
  refine wpAnyH_ready (rs := [2]) (by kernel_rfl) (by simp) (AllReadyH.cons rfl (fun K hK => ?_) AllReadyH.nil)
  go_simp
  (with_reducible refine (HD.out.1 w3.drew (HV3.out.2.2.2.num.tab.below (Below.refl _ _).drew)).mono ?_)
  rintro e w4 ⟨v, rfl, rfl, hb4⟩
  have hb4' : Below w3.heap.size w3 w4 := (Below.refl _ _).drew.trans hb4
  refine hK.out _ _ ⟨HV3.out.2.1.keep hb4', HV3.out.1.keep hb4'⟩ (fun hHeld => ?_)
  clear hK K
  (try simp only [Act.put, lay9])
  refine wpAnyH_ready (rs := [4]) (by kernel_rfl) (by simp) (AllReadyH.cons rfl (fun K hK => ?_) AllReadyH.nil)
  go_simp
  (with_reducible refine (HD.out.2.1 _ (HV3.out.2.2.2.num.tab.below hb4')).mono ?_)
  rintro e w5 ⟨v, rfl, rfl, hb5⟩
  have hb5' : Below w3.heap.size w3 w5 := hb4'.trans (hb5.mono hb4'.size)
  refine hK.out _ _ ⟨HV3.out.2.1.keep hb5', HV3.out.1.keep hb5'⟩ (fun hHeld => ?_)
  clear hK K
  (try simp only [Act.put, lay9])
  refine wpAnyH_ready (rs := [10]) (by kernel_rfl) (by simp) (AllReadyH.cons rfl (fun K hK => ?_) AllReadyH.nil)
  go_simp
  generalize hw6 : World.alloc w5 _ = w6
  have hb56 : Below w5.heap.size w5 w6 := by rw [← hw6]; exact (Below.refl _ _).alloc (Nat.le_refl _) _
  have hr6 : Rd w6 1 (some ⟨w5.heap.size, 0, none⟩) 7 (strs [Pl.hibs, nm, tz, tp, sum, own, d]) := by rw [← hw6]; exact Rd.new w5 (strs [Pl.hibs, nm, tz, tp, sum, own, d]) 9
  have hb6' : Below w3.heap.size w3 w6 := hb5'.trans (hb56.mono hb5'.size)
  have hbw6 : Below N w w6 := HV3.out.2.2.1.trans (hb6'.mono (by have := HV3.out.2.2.1.size; omega))
  obtain ⟨H, hH⟩ : ∃ H, w5.heap.size = H := ⟨_, rfl⟩
  rw [hH] at hr6
  simp only [hH]
  clear hw6 hH
  refine hK.out _ _ ⟨HV3.out.2.1.keep hb6', HV3.out.1.keep hb6'⟩ (fun hHeld => ?_)
  clear hK K
  (try simp only [Act.put, lay9])
  refine wpAnyH_ready (rs := [11]) (by kernel_rfl) (by simp) (AllReadyH.cons rfl (fun K hK => ?_) AllReadyH.nil)
  go_simp
  have hrow := row_any (some ⟨H, 0, none⟩) 7 7 [Pl.hibs, nm, tz, tp, sum, own, d] w6 hr6 (by omega) (by simp only [sumLen, show Pl.hibs.length = 4 from rfl, hs32, ho32]; omega)
  rw [HD.out.2.2.1, HD.out.2.2.2] at HH
  rw [HH.out.1] at hrow
  (with_reducible refine hrow.mono ?_)
  rintro e w7 ⟨v, rfl, rfl, hb7⟩
  have hb7' : Below w3.heap.size w3 w7 := hb6'.trans (hb7.mono hb6'.size)
  refine hK.out _ _ ⟨HV3.out.2.1.keep hb7', HV3.out.1.keep hb7'⟩ (fun hHeld => ?_)
  clear hK K
  (try simp only [Act.put, lay9])
  refine wpAnyH_ready (rs := [12]) (by kernel_rfl) (by simp) (AllReadyH.cons rfl (fun K hK => ?_) AllReadyH.nil)
  go_simp
  refine hK.out _ _ hHeld (fun hHeld => ?_)
  clear hK K
  (try simp only [Act.put, lay9])
  refine wpAnyH_done (by kernel_rfl) ?_ _
  go_wp2_with fail
  go_ret
  exact ⟨_, rfl, rfl, by rw [hN]; exact hbw6.trans (hb7.mono (by have := hbw6.size; omega))⟩
end Go.Proofs.YtdnebgilkfafhaaGreatDoor
namespace Go.Proofs.YtdnebgilkfafhaaGreatDoor
open Go.RowKit
set_option linter.unusedVariables false
set_option linter.unusedSimpArgs false
attribute [local go_sem] ba_get ba_cut ba_add
set_option maxRecDepth 100000 in
theorem write1_any (Q G : Nat) (l : List (List UInt8)) (hl : l.length = 5) (k : Nat) (hk : k < 5) (W : World) (hQ : W.heap[Q]? = some (.cells #[.slice (some ⟨G, 0, none⟩) 5 5] 22 (0, 0))) (hG : W.heap[G]? = some (.cells (strs l).toArray 9 (0, 0))) :
    Calls Tryz.prog 38 #[.int .i64 (k : Int), .pointer (some ⟨Q, 0, none⟩)] W (Ret (.string ⟨(l.getD k []).toArray⟩) W) := by
  have q0 : W.cell? ⟨Q, 0, none⟩ = some (.slice (some ⟨G, 0, none⟩) 5 5) := by rw [cell_row W Q 0 _ _ hQ]; rfl
  have g0 : W.cell? ⟨G, k, none⟩ = some (.string ⟨(l.getD k []).toArray⟩) := by
    rw [cell_row W G k _ _ hG, List.getElem?_toArray, strs_get l k (by omega), List.getD_eq_getElem?_getD, List.getElem?_eq_getElem (by omega)]
    rfl
  obtain ⟨s, hs⟩ : ∃ s, l.getD k [] = s := ⟨_, rfl⟩
  rw [hs] at g0 ⊢
  clear hs hQ hG hl
  have hk0 : (0 : Int) ≤ (k : Int) := by omega
  have hk5 : (k : Int) < 5 := by omega
  go_enter Tryz.func38, Tryz.ntmps38
  go_wp2_with fail
  go_ret
  exact ⟨rfl, rfl⟩
set_option maxRecDepth 100000 in
theorem post1_any (Q : Nat) (d : List UInt8) (k : Nat) (W : World) (hQ : W.heap[Q]? = some (.cells #[.string ⟨d.toArray⟩] 9 (0, 0))) :
    Calls Tryz.prog 47 #[.int .i64 (k : Int), .pointer (some ⟨Q, 0, none⟩)] W (Ret (.string ⟨d.toArray⟩) W) := by
  have q0 : W.cell? ⟨Q, 0, none⟩ = some (.string ⟨d.toArray⟩) := by rw [cell_row W Q 0 _ _ hQ]; rfl
  clear hQ
  go_enter Tryz.func47, Tryz.ntmps47
  go_wp2_with fail
  go_ret
  exact ⟨rfl, rfl⟩
/-- What Write and Post return. -/
def PutAllOut (b : Nat) (S : Nat → Pl.Shelf) (n : Int) (e : Nat) (v : Value) (w : World) : Prop := ∃ X, v = .tuple #[.agg (stoL S X n).toArray, .int .i64 (e : Int)] ∧ StF b w S X
set_option maxRecDepth 100000 in
set_option maxHeartbeats 4000000 in
theorem spost_bad (S : Nat → Pl.Shelf) (X : Nat → ShX) (n : Int) (nm d : List UInt8) (w : World) (hok : StOk w S X) (hfit : FitS S) (hbad : Pl.mayPutE nm d ≠ 0) :
    Calls Tryz.prog 17 #[.agg (stoL S X n).toArray, .string ⟨nm.toArray⟩, .string ⟨d.toArray⟩] w (RetB (PutAllOut w.heap.size S n (Pl.mayPutE nm d)) w) := by
  have hmay := fun W => smayPut_any nm d W
  obtain ⟨e, he⟩ : ∃ e, Pl.mayPutE nm d = e := ⟨_, rfl⟩
  rw [he] at hbad hmay ⊢
  have hbad' : ((e : Int) != 0) = true := by simp; omega
  obtain ⟨N, hN⟩ : ∃ N, w.heap.size = N := ⟨_, rfl⟩
  have hco := fun W (h : StOk W S X) => scopied_any S X n W h hfit
  obtain ⟨L, hL⟩ : ∃ L, stoL S X n = L := ⟨_, rfl⟩
  rw [hL] at hco ⊢
  have hiL : (Tryz.prog.info? 33).map (·.size) = some L.length := by rw [← hL]; exact info_sto
  have HH := Lib.hid (And.intro hmay (And.intro hco (And.intro hL (And.intro hok hiL))))
  clear hmay hco hL hok hiL he hbad
  go_enter Tryz.func17, Tryz.ntmps17
  go_upto_region 1 with (fail)
  simp only [Nat.add_assoc, Nat.reduceAdd]
  rw [zero_sto]
  generalize hV : World.alloc _ (.cells (stoL (fun _ => Pl.noSh) (fun _ => ⟨none, 0, none, 0⟩) 0).toArray 33) = V
  have hVa : allocs w [.cells L.toArray 33, .cells #[.string ⟨d.toArray⟩] 9, .cells (stoL (fun _ => Pl.noSh) (fun _ => ⟨none, 0, none, 0⟩) 0).toArray 33] = V := hV
  have hbV : Below N w V := by rw [← hVa]; exact allocs_below w _ N (by omega)
  have hsV : V.heap.size = N + 3 := by rw [← hVa, allocs_size, hN]; simp only [List.length_cons, List.length_nil]
  have h0 : StBx N S X n V := by unfold StBx; rw [HH.out.2.2.1]; exact allocs_at hVa hN 0 rfl
  have h1 : V.heap[N + 1]? = some (.cells #[.string ⟨d.toArray⟩] 9 (0, 0)) := allocs_at hVa hN 1 rfl
  have h2 : StBx (N + 2) (fun _ => Pl.noSh) (fun _ => ⟨none, 0, none, 0⟩) 0 V := allocs_at hVa hN 2 rfl
  have d0 : V.cell? ⟨N + 1, 0, none⟩ = some (.string ⟨d.toArray⟩) := by rw [cell_row V (N + 1) 0 _ _ h1]; rfl
  have hrg : V.rangeAt N 0 L := by rw [← HH.out.2.2.1]; exact h0.range
  have HB := Lib.hid (And.intro hrg (And.intro h2 hbV))
  clear hV hVa hrg h0 h1 h2 hbV
  go_wp2_with fail
  (with_reducible refine (HH.out.1 V).mono ?_)
  rintro _ w1 ⟨rfl, rfl⟩
  go_wp2_with first
    | with_reducible refine wpList_load_mid rfl 33 _ rfl N 0 rfl L _ HB.out.1 Tryz.underlying33 rfl HH.out.2.2.2.2 ?_
  (with_reducible refine (HH.out.2.1 V (HH.out.2.2.2.1.below (by rw [hN]; exact HB.out.2.2))).mono ?_)
  rintro _ w2 ⟨v, rfl, ⟨X2, rfl, hst2⟩, hb2⟩
  obtain ⟨L2, hL2⟩ : ∃ L2, stoL S X2 n = L2 := ⟨_, rfl⟩
  rw [hL2]
  have h22 := HB.out.2.1.keep hb2
  have hT : w2.there (N + 2) 0 L2.toArray.size := thereL h22 (by rw [← hL2]; exact Nat.le_refl 11)
  have hi2 : (Tryz.prog.info? 33).map (·.size) = some L2.toArray.size := by rw [List.size_toArray, ← hL2]; exact info_sto
  have hi2' : (Tryz.prog.info? 33).map (·.size) = some L2.length := by rw [← hL2]; exact info_sto
  have ho2 : ∀ v ∈ L2, v.oneCell' = true := by rw [← hL2]; exact stoL_one _ X2 _
  have HC := Lib.hid (And.intro hT (And.intro hi2 (And.intro ho2 (And.intro hi2' (And.intro hL2 (And.intro hst2 (And.intro h22 hb2)))))))
  clear hT hi2 ho2 hi2' hL2 hst2 h22 hb2
  go_wp2_with first
    | with_reducible refine wpList_store_mid rfl 33 _ _ rfl (N + 2) 0 L2.toArray rfl rfl HC.out.1 HC.out.2.1 (all_oneCell_toArray HC.out.2.2.1) ?_
  have hst3 : StF N (w2.setCells (N + 2) 0 L2) S X2 := (HC.out.2.2.2.2.2.1.weak (b' := N) (by omega)).kpt (HC.out.2.2.2.2.2.2.1.kpts L2)
  refine bodyPost_ret (v := .tuple #[.agg L2.toArray, .int .i64 (e : Int)]) (results_sto2 (B := N + 2) rfl rfl rfl (World.rangeAt_setCells_same _ _ _ _ (by have := HC.out.1; simpa using this)) HC.out.2.2.2.1) rfl ?_
  exact ⟨_, rfl, ⟨X2, by rw [HC.out.2.2.2.2.1], by rw [hN]; exact hst3⟩, by rw [hN]; exact (HB.out.2.2.trans (HC.out.2.2.2.2.2.2.2.mono (by omega))).trans (Lib.below_setCells_w (by omega) L2 0 w2)⟩
set_option maxRecDepth 100000 in
set_option maxHeartbeats 4000000 in
theorem spost_good (S : Nat → Pl.Shelf) (X : Nat → ShX) (n : Int) (hn : Pl.I64 n) (nm d : List UInt8) (w : World) (hok : StOk w S X) (hfit : FitS S) (hgood : Pl.mayPutE nm d = 0) (hd : d.length ≤ 1000000) :
    Calls Tryz.prog 17 #[.agg (stoL S X n).toArray, .string ⟨nm.toArray⟩, .string ⟨d.toArray⟩] w (RetB (PutAllOut w.heap.size (putSh nm (fun _ => d) S n) (Pl.leftAt n 5) (fstK 0 (putEr nm (fun _ => d) S n) 5)) w) := by
  have hmay := fun W => smayPut_any nm d W
  rw [hgood] at hmay
  obtain ⟨N, hN⟩ : ∃ N, w.heap.size = N := ⟨_, rfl⟩
  have hpa := fun W (h : StOk W S X) hD => putAll_any S X n hn W h hfit nm 47 #[.pointer (some ⟨N + 1, 0, none⟩)] (fun _ => d) (fun a V => by kernel_rfl) hD (fun _ _ => hd)
  obtain ⟨L, hL⟩ : ∃ L, stoL S X n = L := ⟨_, rfl⟩
  rw [hL] at hpa ⊢
  have hiL : (Tryz.prog.info? 33).map (·.size) = some L.length := by rw [← hL]; exact info_sto
  obtain ⟨fe, hfe⟩ : ∃ fe, fstK 0 (putEr nm (fun _ => d) S n) 5 = fe := ⟨_, rfl⟩
  rw [hfe] at hpa ⊢
  obtain ⟨S', hS'⟩ : ∃ S', putSh nm (fun _ => d) S n = S' := ⟨_, rfl⟩
  rw [hS'] at hpa ⊢
  have HH := Lib.hid (And.intro hmay (And.intro hpa (And.intro hL (And.intro hok hiL))))
  clear hmay hpa hL hok hiL hfe hS'
  go_enter Tryz.func17, Tryz.ntmps17
  go_upto_region 1 with (fail)
  simp only [Nat.add_assoc, Nat.reduceAdd]
  rw [zero_sto]
  generalize hV : World.alloc _ (.cells (stoL (fun _ => Pl.noSh) (fun _ => ⟨none, 0, none, 0⟩) 0).toArray 33) = V
  have hVa : allocs w [.cells L.toArray 33, .cells #[.string ⟨d.toArray⟩] 9, .cells (stoL (fun _ => Pl.noSh) (fun _ => ⟨none, 0, none, 0⟩) 0).toArray 33] = V := hV
  have hbV : Below N w V := by rw [← hVa]; exact allocs_below w _ N (by omega)
  have hsV : V.heap.size = N + 3 := by rw [← hVa, allocs_size, hN]; simp only [List.length_cons, List.length_nil]
  have h0 : StBx N S X n V := by unfold StBx; rw [HH.out.2.2.1]; exact allocs_at hVa hN 0 rfl
  have h1 : V.heap[N + 1]? = some (.cells #[.string ⟨d.toArray⟩] 9 (0, 0)) := allocs_at hVa hN 1 rfl
  have h2 : StBx (N + 2) (fun _ => Pl.noSh) (fun _ => ⟨none, 0, none, 0⟩) 0 V := allocs_at hVa hN 2 rfl
  have d0 : V.cell? ⟨N + 1, 0, none⟩ = some (.string ⟨d.toArray⟩) := by rw [cell_row V (N + 1) 0 _ _ h1]; rfl
  have hrg : V.rangeAt N 0 L := by rw [← HH.out.2.2.1]; exact h0.range
  have hput := HH.out.2.1 V (HH.out.2.2.2.1.below (by rw [hN]; exact hbV)) (fun k _ U hU => post1_any (N + 1) d k U (keepB h1 hU))
  have HB := Lib.hid (And.intro hrg (And.intro h2 (And.intro hbV hput)))
  clear hV hVa hrg h0 h1 h2 hbV hput
  go_wp2_with fail
  (with_reducible refine (HH.out.1 V).mono ?_)
  rintro _ w1 ⟨rfl, rfl⟩
  go_wp2_with first
    | with_reducible refine wpList_load_mid rfl 33 _ rfl N 0 rfl L _ HB.out.1 Tryz.underlying33 rfl HH.out.2.2.2.2 ?_
  (with_reducible refine HB.out.2.2.2.mono ?_)
  rintro _ w2 ⟨v, rfl, ⟨X2, rfl, hst2⟩, hb2⟩
  obtain ⟨L2, hL2⟩ : ∃ L2, stoL S' X2 (Pl.leftAt n 5) = L2 := ⟨_, rfl⟩
  rw [hL2]
  have h22 := HB.out.2.1.keep hb2
  have hT : w2.there (N + 2) 0 L2.toArray.size := thereL h22 (by rw [← hL2]; exact Nat.le_refl 11)
  have hi2 : (Tryz.prog.info? 33).map (·.size) = some L2.toArray.size := by rw [List.size_toArray, ← hL2]; exact info_sto
  have hi2' : (Tryz.prog.info? 33).map (·.size) = some L2.length := by rw [← hL2]; exact info_sto
  have ho2 : ∀ v ∈ L2, v.oneCell' = true := by rw [← hL2]; exact stoL_one _ X2 _
  have HC := Lib.hid (And.intro hT (And.intro hi2 (And.intro ho2 (And.intro hi2' (And.intro hL2 (And.intro hst2 (And.intro h22 hb2)))))))
  clear hT hi2 ho2 hi2' hL2 hst2 h22 hb2
  go_wp2_with first
    | with_reducible refine wpList_store_mid rfl 33 _ _ rfl (N + 2) 0 L2.toArray rfl rfl HC.out.1 HC.out.2.1 (all_oneCell_toArray HC.out.2.2.1) ?_
  have hst3 : StF N (w2.setCells (N + 2) 0 L2) S' X2 := (HC.out.2.2.2.2.2.1.weak (b' := N) (by omega)).kpt (HC.out.2.2.2.2.2.2.1.kpts L2)
  refine bodyPost_ret (v := .tuple #[.agg L2.toArray, .int .i64 (fe : Int)]) (results_sto2 (B := N + 2) rfl rfl rfl (World.rangeAt_setCells_same _ _ _ _ (by have := HC.out.1; simpa using this)) HC.out.2.2.2.1) rfl ?_
  exact ⟨_, rfl, ⟨X2, by rw [HC.out.2.2.2.2.1], by rw [hN]; exact hst3⟩, by rw [hN]; exact (HB.out.2.2.1.trans (HC.out.2.2.2.2.2.2.2.mono (by omega))).trans (Lib.below_setCells_w (by omega) L2 0 w2)⟩
end Go.Proofs.YtdnebgilkfafhaaGreatDoor
namespace Go.Proofs.YtdnebgilkfafhaaGreatDoor
open Go.RowKit
set_option linter.unusedVariables false
set_option linter.unusedSimpArgs false
attribute [local go_sem] ba_get ba_cut ba_add
set_option maxRecDepth 100000 in
set_option maxHeartbeats 4000000 in
theorem swrite_bad (S : Nat → Pl.Shelf) (X : Nat → ShX) (n : Int) (nm d : List UInt8) (w : World) (hok : StOk w S X) (hfit : FitS S) (hbad : Pl.mayPutE nm d ≠ 0) :
    Calls Tryz.prog 13 #[.agg (stoL S X n).toArray, .string ⟨nm.toArray⟩, .string ⟨d.toArray⟩] w (RetB (PutAllOut w.heap.size S n (Pl.mayPutE nm d)) w) := by
  have hmay := fun W => smayPut_any nm d W
  obtain ⟨e, he⟩ : ∃ e, Pl.mayPutE nm d = e := ⟨_, rfl⟩
  rw [he] at hbad hmay ⊢
  have hbad' : ((e : Int) != 0) = true := by simp; omega
  obtain ⟨N, hN⟩ : ∃ N, w.heap.size = N := ⟨_, rfl⟩
  have hco := fun W (h : StOk W S X) => scopied_any S X n W h hfit
  obtain ⟨L, hL⟩ : ∃ L, stoL S X n = L := ⟨_, rfl⟩
  rw [hL] at hco ⊢
  have hiL : (Tryz.prog.info? 33).map (·.size) = some L.length := by rw [← hL]; exact info_sto
  have HH := Lib.hid (And.intro hmay (And.intro hco (And.intro hL (And.intro hok hiL))))
  clear hmay hco hL hok hiL he hbad
  go_enter Tryz.func13, Tryz.ntmps13
  go_upto_region 1 with (fail)
  rw [zero_sto]
  generalize hV : World.alloc _ (.cells (stoL (fun _ => Pl.noSh) (fun _ => ⟨none, 0, none, 0⟩) 0).toArray 33) = V
  have hVa : allocs w [.cells L.toArray 33, .cells (stoL (fun _ => Pl.noSh) (fun _ => ⟨none, 0, none, 0⟩) 0).toArray 33] = V := hV
  have hbV : Below N w V := by rw [← hVa]; exact allocs_below w _ N (by omega)
  have hsV : V.heap.size = N + 2 := by rw [← hVa, allocs_size, hN]; simp only [List.length_cons, List.length_nil]
  have h0 : StBx N S X n V := by unfold StBx; rw [HH.out.2.2.1]; exact allocs_at hVa hN 0 rfl
  have h2 : StBx (N + 1) (fun _ => Pl.noSh) (fun _ => ⟨none, 0, none, 0⟩) 0 V := allocs_at hVa hN 1 rfl
  have hrg : V.rangeAt N 0 L := by rw [← HH.out.2.2.1]; exact h0.range
  have HB := Lib.hid (And.intro hrg (And.intro h2 hbV))
  clear hV hVa hrg h0 h2 hbV
  go_wp2_with fail
  (with_reducible refine (HH.out.1 V).mono ?_)
  rintro _ w1 ⟨rfl, rfl⟩
  go_wp2_with first
    | with_reducible refine wpList_load_mid rfl 33 _ rfl N 0 rfl L _ HB.out.1 Tryz.underlying33 rfl HH.out.2.2.2.2 ?_
  (with_reducible refine (HH.out.2.1 V (HH.out.2.2.2.1.below (by rw [hN]; exact HB.out.2.2))).mono ?_)
  rintro _ w2 ⟨v, rfl, ⟨X2, rfl, hst2⟩, hb2⟩
  obtain ⟨L2, hL2⟩ : ∃ L2, stoL S X2 n = L2 := ⟨_, rfl⟩
  rw [hL2]
  have h22 := HB.out.2.1.keep hb2
  have hT : w2.there (N + 1) 0 L2.toArray.size := thereL h22 (by rw [← hL2]; exact Nat.le_refl 11)
  have hi2 : (Tryz.prog.info? 33).map (·.size) = some L2.toArray.size := by rw [List.size_toArray, ← hL2]; exact info_sto
  have hi2' : (Tryz.prog.info? 33).map (·.size) = some L2.length := by rw [← hL2]; exact info_sto
  have ho2 : ∀ v ∈ L2, v.oneCell' = true := by rw [← hL2]; exact stoL_one _ X2 _
  have HC := Lib.hid (And.intro hT (And.intro hi2 (And.intro ho2 (And.intro hi2' (And.intro hL2 (And.intro hst2 (And.intro h22 hb2)))))))
  clear hT hi2 ho2 hi2' hL2 hst2 h22 hb2
  go_wp2_with first
    | with_reducible refine wpList_store_mid rfl 33 _ _ rfl (N + 1) 0 L2.toArray rfl rfl HC.out.1 HC.out.2.1 (all_oneCell_toArray HC.out.2.2.1) ?_
  have hst3 : StF N (w2.setCells (N + 1) 0 L2) S X2 := (HC.out.2.2.2.2.2.1.weak (b' := N) (by omega)).kpt (HC.out.2.2.2.2.2.2.1.kpts L2)
  refine bodyPost_ret (v := .tuple #[.agg L2.toArray, .int .i64 (e : Int)]) (results_sto2 (B := N + 1) rfl rfl rfl (World.rangeAt_setCells_same _ _ _ _ (by have := HC.out.1; simpa using this)) HC.out.2.2.2.1) rfl ?_
  exact ⟨_, rfl, ⟨X2, by rw [HC.out.2.2.2.2.1], by rw [hN]; exact hst3⟩, by rw [hN]; exact (HB.out.2.2.trans (HC.out.2.2.2.2.2.2.2.mono (by omega))).trans (Lib.below_setCells_w (by omega) L2 0 w2)⟩
/-- The parts of bytes under a name, of which k are made. -/
def prtL (nm d : List UInt8) (k : Nat) : List (List UInt8) := (List.range 5).map fun i => if i < k then Pl.partOf nm d i else []
theorem prtL_len (nm d : List UInt8) (k : Nat) : (prtL nm d k).length = 5 := by simp [prtL]
theorem prtL_set (nm d : List UInt8) (k : Nat) (hk : k < 5) : (prtL nm d k).set k (Pl.partOf nm d k) = prtL nm d (k + 1) := by
  rcases lt5 hk with rfl | rfl | rfl | rfl | rfl <;> rfl
theorem prtL_all (nm d : List UInt8) {k : Nat} (hk : k < 5) : (prtL nm d 5).getD k [] = Pl.partOf nm d k := by
  rcases lt5 hk with rfl | rfl | rfl | rfl | rfl <;> rfl
theorem partCs_get (d : List UInt8) {k : Nat} (hk : k < 5) : (partCs d [1, 2, 3, 4, 5])[k * 2]? = some (.int .i64 ((k + 1 : Nat) : Int)) ∧ (partCs d [1, 2, 3, 4, 5])[k * 2 + 1]? = some (.string ⟨(Pl.partP d (UInt8.ofNat (k + 1))).toArray⟩) := by
  rcases lt5 hk with rfl | rfl | rfl | rfl | rfl <;> exact ⟨rfl, rfl⟩
theorem mkS5 (W : World) : (Instr.makeSlice 22 (.int .i64 5) (.int .i64 5)).run Tryz.prog W = .ok (.slice (some ⟨W.heap.size, 0, none⟩) 5 5) (W.alloc (.cells (strs [[], [], [], [], []]).toArray 9)) := by
  rw [show (strs [[], [], [], [], []]).toArray = madeCells #[.string ⟨#[]⟩] 5 from by rw [made_repB]; rfl]
  exact run_make_row' 22 9 (.string ⟨#[]⟩) 16 Tryz.underlying22 info_str rfl .i64 .i64 5 (by omega) (by omega) W
set_option maxRecDepth 100000 in
set_option maxHeartbeats 4000000 in
theorem swrite_good (S : Nat → Pl.Shelf) (X : Nat → ShX) (n : Int) (hn : Pl.I64 n) (nm d : List UInt8) (w : World) (hok : StOk w S X) (hfit : FitS S) (hgood : Pl.mayPutE nm d = 0) (hnm : nm.length ≤ 100) (hd : d.length ≤ 65536) (hv : VSp w) :
    Calls Tryz.prog 13 #[.agg (stoL S X n).toArray, .string ⟨nm.toArray⟩, .string ⟨d.toArray⟩] w (RetB (PutAllOut w.heap.size (putSh nm (Pl.partOf nm d) S n) (Pl.leftAt n 5) (fstK 0 (putEr nm (Pl.partOf nm d) S n) 5)) w) := by
  have hmay := fun W => smayPut_any nm d W
  rw [hgood] at hmay
  obtain ⟨N, hN⟩ : ∃ N, w.heap.size = N := ⟨_, rfl⟩
  obtain ⟨L, hL⟩ : ∃ L, stoL S X n = L := ⟨_, rfl⟩
  rw [hL]
  have hiL : (Tryz.prog.info? 33).map (·.size) = some L.length := by rw [← hL]; exact info_sto
  have HH := Lib.hid (And.intro hmay (And.intro hL (And.intro hok (And.intro hiL hv))))
  clear hmay hL hok hiL hv
  go_enter Tryz.func13, Tryz.ntmps13
  go_upto_region 1 with (fail)
  rw [zero_sto]
  generalize hV : World.alloc _ (.cells (stoL (fun _ => Pl.noSh) (fun _ => ⟨none, 0, none, 0⟩) 0).toArray 33) = V
  have hVa : allocs w [.cells L.toArray 33, .cells (stoL (fun _ => Pl.noSh) (fun _ => ⟨none, 0, none, 0⟩) 0).toArray 33] = V := hV
  have hbV : Below N w V := by rw [← hVa]; exact allocs_below w _ N (by omega)
  have hsV : V.heap.size = N + 2 := by rw [← hVa, allocs_size, hN]; simp only [List.length_cons, List.length_nil]
  have h0 : StBx N S X n V := by unfold StBx; rw [HH.out.2.1]; exact allocs_at hVa hN 0 rfl
  have h2 : StBx (N + 1) (fun _ => Pl.noSh) (fun _ => ⟨none, 0, none, 0⟩) 0 V := allocs_at hVa hN 1 rfl
  have HB := Lib.hid (And.intro h0 (And.intro h2 hbV))
  clear hV hVa h0 h2 hbV
  go_wp2_with fail
  (with_reducible refine (HH.out.1 V).mono ?_)
  rintro _ w1 ⟨rfl, rfl⟩
  have hmk := mkS5
  go_upto_region 5 with (fail)
  generalize hV5 : World.alloc (World.alloc V _) _ = V5
  have hV5a : allocs V [.cells (strs [[], [], [], [], []]).toArray 9, .cells #[.slice (some ⟨N + 2, 0, none⟩) 5 5] 22] = V5 := hV5
  have hs5 : V5.heap.size = N + 4 := by rw [← hV5a, allocs_size, hsV]; simp only [List.length_cons, List.length_nil]
  have hb5 : Below (N + 2) V V5 := by rw [← hV5a]; exact allocs_below V _ (N + 2) (by omega)
  have hG5 : V5.heap[N + 2]? = some (.cells (strs (prtL nm d 0)).toArray 9 (0, 0)) := allocs_at hV5a hsV 0 rfl
  have hQ5 : V5.heap[N + 3]? = some (.cells #[.slice (some ⟨N + 2, 0, none⟩) 5 5] 22 (0, 0)) := allocs_at hV5a hsV 1 rfl
  have hN5 : StBx N S X n V5 := (hb5.block N (by omega)).trans HB.out.1
  have hR5 : StBx (N + 1) (fun _ => Pl.noSh) (fun _ => ⟨none, 0, none, 0⟩) 0 V5 := (hb5.block (N + 1) (by omega)).trans HB.out.2.1
  have hbw5 : Below N w V5 := HB.out.2.2.trans (hb5.mono (by omega))
  simp only [Nat.add_assoc, Nat.reduceAdd]
  have H5 := Lib.hid (And.intro hG5 (And.intro hQ5 (And.intro hN5 (And.intro hR5 hbw5))))
  clear hV5 hV5a hb5 hG5 hQ5 hN5 hR5 hbw5 HB hmk hsV
  obtain ⟨sum, hsum0⟩ : ∃ sum, Pl.sumB [d] = sum := ⟨_, rfl⟩
  have hsl : sum.length = 32 := by rw [← hsum0]; exact sum_len _
  have hsum : Calls Tryz.prog 34 #[.slice (some ⟨V5.heap.size, 0, none⟩) 1 1] (V5.alloc (.cells #[.string ⟨d.toArray⟩] 9)) _ := sum_any (some ⟨V5.heap.size, 0, none⟩) [d] 1 (fun q hq => by rw [List.mem_singleton.1 hq]; omega) (by simp) (V5.alloc (.cells #[.string ⟨d.toArray⟩] 9)) (Rd.new V5 [.string ⟨d.toArray⟩] 9) ((HH.out.2.2.2.2.below (by rw [hN]; exact H5.out.2.2.2.2)).hash.below ((Below.refl _ _).alloc (Nat.le_refl _) _))
  rw [hsum0, hs5] at hsum
  obtain ⟨Lo, hLo⟩ : ∃ Lo, u8s sum = Lo := ⟨_, rfl⟩
  rw [hLo] at hsum
  have hio : (Tryz.prog.info? 42).map (·.size) = some Lo.toArray.size := by rw [List.size_toArray, ← hLo, u8s_len, hsl]; kernel_rfl
  have hio' : (Tryz.prog.info? 42).map (·.size) = some Lo.length := by rw [← hLo, u8s_len, hsl]; kernel_rfl
  have hoo : ∀ v ∈ Lo, v.oneCell' = true := by rw [← hLo]; exact u8s_one sum
  have HS := Lib.hid (And.intro hsum (And.intro hio (And.intro hoo (And.intro hLo (And.intro hsl (And.intro hsum0 hio'))))))
  clear hio hio' hoo hLo hsum0
  go_upto_region 6 with first
    | (with_reducible refine HS.out.1.mono ?_)
  intro e w2 he hb2
  subst he
  have hbA : Below V5.heap.size V5 (V5.alloc (.cells #[.string ⟨d.toArray⟩] 9)) := (Below.refl _ _).alloc (Nat.le_refl _) _
  have hb52 : Below V5.heap.size V5 w2 := hbA.trans (hb2.mono (by omega))
  have hsz2 : N + 5 ≤ w2.heap.size := by have := hb2.size; simp at this; omega
  have HT := Lib.hid (show (w2.alloc (.cells z32 42)).there w2.heap.size 0 Lo.toArray.size from thereL (heap_alloc_new w2 _) (by rw [z32_eq, List.size_toArray, List.size_toArray, ← HS.out.2.2.2.1, u8s_len, u8s_len, hsl]; simp))
  clear hsum hbA hb2
  go_upto_region 6 with (with_reducible refine wpList_store_mid rfl 42 _ _ rfl w2.heap.size 0 Lo.toArray rfl rfl HT.out HS.out.2.1 (all_oneCell_toArray HS.out.2.2.1) ?_)
  obtain ⟨M, hM⟩ : ∃ M, w2.heap.size = M := ⟨_, rfl⟩
  have hd3 : DigAt M sum ((w2.alloc (.cells z32 42)).setCells M 0 Lo) := by
    unfold DigAt
    rw [HS.out.2.2.2.1, ← hM]
    exact heap_setCells_all (C := u8s (List.replicate 32 0)) (heap_alloc_new w2 _) (by rw [← HS.out.2.2.2.1, u8s_len, u8s_len, hsl]; simp)
  have hb23 : Below M w2 ((w2.alloc (.cells z32 42)).setCells M 0 Lo) := ((Below.refl _ _).alloc (by omega) _).trans (Lib.below_setCells_w (Nat.le_refl _) Lo 0 _)
  have hb53 : Below V5.heap.size V5 ((w2.alloc (.cells z32 42)).setCells M 0 Lo) := hb52.trans (hb23.mono (by omega))
  simp only [hM]
  generalize hw3 : World.setCells _ M 0 _ = w3
  rw [show (World.setCells (World.alloc w2 (.cells z32 42)) M 0 Lo) = w3 from hw3] at hd3 hb53
  have hsM : M < w3.heap.size := blk_lt hd3
  have H3 := Lib.hid (And.intro hd3 hb53)
  clear hd3 hb23 hb53 hw3 hb52 HT hsl
  have hcut := cut_any d w3 (by omega)
  go_wp2_with fail
  (with_reducible refine hcut.mono ?_)
  rintro e w4 ⟨v, rfl, ⟨A, c, rfl, hown4⟩, hb4⟩
  have hb54 : Below V5.heap.size V5 w4 := H3.out.2.trans (hb4.mono H3.out.2.size)
  have hD4 := H3.out.1.keep hb4
  have hk54 : ∀ g, g < N + 4 → w4.heap[g]? = V5.heap[g]? := fun g hg => hb54.block g (by omega)
  obtain ⟨ga, hA, hga⟩ : ∃ ga, A = some ⟨ga, 0, none⟩ ∧ w3.heap.size ≤ ga := by
    rcases hown4.2 with ⟨h, h0⟩ | ⟨g, cap, cur, h, h1, _⟩
    · cases h0
    · injection h with h1' ; exact ⟨g, h1', h1⟩
  subst hA
  have hbw4 : Below N w w4 := H5.out.2.2.2.2.trans (hb54.mono (by omega))
  have HC := Lib.hid (And.intro hown4 (And.intro hD4 (And.intro ((hk54 (N + 2) (by omega)).trans H5.out.1) (And.intro ((hk54 (N + 3) (by omega)).trans H5.out.2.1) (And.intro ((hk54 N (by omega)).trans H5.out.2.2.1) (And.intro ((hk54 (N + 1) (by omega)).trans H5.out.2.2.2.1) hbw4))))))
  have hM2 : N + 3 < M := by omega
  clear hcut hown4 hb4 hb54 hD4 hk54 hbw4 H5 H3 hsz2 hM
  go_upto_region 7 with (fail)
  go_loopw [28] (fun i wr => ∃ (k : Nat), k ≤ 5 ∧ i = .int .i64 (k : Int) ∧ Hid (wr.ownsRow w3.heap.size 71 2 (.slice (some ⟨ga, 0, none⟩) 5 c) 5 (partCs d [1, 2, 3, 4, 5]) ∧ DigAt M sum wr ∧ wr.heap[N + 2]? = some (.cells (strs (prtL nm d k)).toArray 9 (0, 0)) ∧ wr.heap[N + 3]? = some (.cells #[.slice (some ⟨N + 2, 0, none⟩) 5 5] 22 (0, 0)) ∧ StBx N S X n wr ∧ StBx (N + 1) (fun _ => Pl.noSh) (fun _ => ⟨none, 0, none, 0⟩) 0 wr ∧ Below N w wr)) (fun i _ => 5 - (intOf i).toNat)
  case atStart => exact ⟨0, by omega, rfl, HC.out⟩
  case round =>
    obtain ⟨k, hk, rfl, HK⟩ := hrel
    by_cases hk5 : k < 5
    · obtain ⟨pI, hpI⟩ : ∃ pI, k + 1 = pI := ⟨_, rfl⟩
      obtain ⟨pd, hpd⟩ : ∃ pd, Pl.partP d (UInt8.ofNat (k + 1)) = pd := ⟨_, rfl⟩
      have hpc := partCs_get d hk5
      rw [hpd, hpI] at hpc
      have hrd := Rd.own HK.out.1
      obtain ⟨b0, o0, he0, hlt0, hc0⟩ := hrd.all (by omega)
      injection he0 with he0
      injection he0 with he1 he2
      subst he1 he2
      have p0 : wr.cell? ⟨ga, k * 2, none⟩ = some (.int .i64 (pI : Int)) := by
        have h := hc0 (k * 2) (by show k * 2 < 10; omega)
        rw [Nat.zero_add] at h
        rw [h, hpc.1]
      have p1 : wr.cell? ⟨ga, k * 2 + 1, none⟩ = some (.string ⟨pd.toArray⟩) := by
        have h := hc0 (k * 2 + 1) (by show k * 2 + 1 < 10; omega)
        rw [Nat.zero_add] at h
        rw [h, hpc.2]
      clear hc0 hrd hpc
      go_upto_region 9 with (fail)
      obtain ⟨T, hT⟩ : ∃ T, wr.heap.size = T := ⟨_, rfl⟩
      generalize hW : World.alloc wr _ = W
      have hbW : Below T wr W := by rw [← hW, ← hT]; exact (Below.refl _ _).alloc (Nat.le_refl _) _
      have hzW : W.heap[T]? = some (.cells #[.int .i64 (pI : Int), .string ⟨pd.toArray⟩] 71 (0, 0)) := by rw [← hW, ← hT]; exact heap_alloc_new _ _
      simp only [hT]
      have hgT : ga < T := by rw [← hT]; exact hlt0
      have t0 : W.cell? ⟨T, 0, none⟩ = some (.int .i64 (pI : Int)) := by rw [cell_row W T 0 _ _ hzW]; rfl
      have t1 : W.cell? ⟨T, 1, none⟩ = some (.string ⟨pd.toArray⟩) := by rw [cell_row W T 1 _ _ hzW]; rfl
      have hQW := (hbW.block (N + 3) (by omega)).trans HK.out.2.2.2.1
      have hDW : DigAt M sum W := (hbW.block M (by omega)).trans HK.out.2.1
      have hGW := (hbW.block (N + 2) (by omega)).trans HK.out.2.2.1
      have q0 : W.cell? ⟨N + 3, 0, none⟩ = some (.slice (some ⟨N + 2, 0, none⟩) 5 5) := by rw [cell_row W (N + 3) 0 _ _ hQW]; rfl
      have hrgD : W.rangeAt M 0 Lo := by rw [← HS.out.2.2.2.1]; exact rangeL hDW
      have hio' := HS.out.2.2.2.2.2.2
      have hTW : T < W.heap.size := blk_lt hzW
      have hbwW : Below N w W := HK.out.2.2.2.2.2.2.trans (hbW.mono (by omega))
      have hpr := partRow_any nm pd sum d.length pI (by omega) (by omega) (by omega) (by rw [← hpd, Pl.partP_len]; have := Pl.rowsN_le (n := d.length); omega) HS.out.2.2.2.2.1 W.drew ((HH.out.2.2.2.2.below (by rw [hN]; exact hbwW)).below (Below.refl _ _).drew)
      rw [HS.out.2.2.2.1, show Pl.partRow nm d.length pI sum pd = Pl.partOf nm d k from by rw [← HS.out.2.2.2.2.2.1, ← hpd, ← hpI]; rfl] at hpr
      have HP := Lib.hid (And.intro hpr (And.intro hzW (And.intro hQW (And.intro hDW (And.intro hGW (And.intro hbW hbwW))))))
      have hpk : pI = k + 1 := hpI.symm
      have hp1 : IntKind.i64.wrap ((pI : Int) - 1) = (k : Int) := by simp [IntKind.wrap, go_sem]; omega
      have hk0 : (0 : Int) ≤ (k : Int) := by omega
      have hkk : (k : Int) < 5 := by omega
      have HPK := Lib.hid hpk
      clear hpr hzW hQW hDW hGW hbW hbwW hW p0 p1 hpd hpI hpk
      refine wp_region_held_drew (S := (fun w' => w'.cell? ⟨T, 0, none⟩ = some (.int .i64 (pI : Int)) ∧ w'.cell? ⟨T, 1, none⟩ = some (.string ⟨pd.toArray⟩) ∧ w'.cell? ⟨N + 3, 0, none⟩ = some (.slice (some ⟨N + 2, 0, none⟩) 5 5) ∧ w'.rangeAt M 0 Lo)) (by kernel_rfl) (by exact ⟨t0, t1, q0, hrgD⟩) (fun hHeld => ?_)
      refine tk 0 (v := ?_) rfl ?_ hHeld ?_
      rotate_left
      · (intro w' hSw; obtain ⟨hS0, hS1, hS2, hS3⟩ := hSw; go_simp; try with_reducible rfl)
      simp only [Act.put, lay9]
      refine tk 1 (v := ?_) rfl ?_ hHeld ?_
      rotate_left
      · (intro w' hSw; obtain ⟨hS0, hS1, hS2, hS3⟩ := hSw; go_simp; try with_reducible rfl)
      simp only [Act.put, lay9]
      refine tk 2 (v := ?_) rfl ?_ hHeld ?_
      rotate_left
      · (intro w' hSw; obtain ⟨hS0, hS1, hS2, hS3⟩ := hSw; go_simp; try with_reducible rfl)
      simp only [Act.put, lay9]
      refine tk 3 (v := ?_) rfl ?_ hHeld ?_
      rotate_left
      · (intro w' hSw; obtain ⟨hS0, hS1, hS2, hS3⟩ := hSw; go_simp; try with_reducible rfl)
      simp only [Act.put, lay9]
      refine tk 4 (v := ?_) rfl ?_ hHeld ?_
      rotate_left
      · (intro w' hSw; obtain ⟨hS0, hS1, hS2, hS3⟩ := hSw; go_simp; try with_reducible rfl)
      simp only [Act.put, lay9]
      refine tk 5 (v := ?_) rfl ?_ hHeld ?_
      rotate_left
      · (intro w' hSw; obtain ⟨hS0, hS1, hS2, hS3⟩ := hSw; go_simp; try with_reducible rfl)
      simp only [Act.put, lay9]
      refine tk 6 (v := ?_) rfl ?_ hHeld ?_
      rotate_left
      · (intro w' hSw; obtain ⟨hS0, hS1, hS2, hS3⟩ := hSw; go_simp; try with_reducible rfl)
      simp only [Act.put, lay9]
      refine tk 7 (v := ?_) rfl ?_ hHeld ?_
      rotate_left
      · (intro w' hSw; obtain ⟨hS0, hS1, hS2, hS3⟩ := hSw; go_simp; try with_reducible rfl)
      simp only [Act.put, lay9]
      refine tk 8 (v := ?_) rfl ?_ hHeld ?_
      rotate_left
      · (intro w' hSw; obtain ⟨hS0, hS1, hS2, hS3⟩ := hSw; go_simp; try with_reducible rfl)
      simp only [Act.put, lay9]
      refine tk 10 (v := ?_) rfl ?_ hHeld ?_
      rotate_left
      · (intro w' hSw; obtain ⟨hS0, hS1, hS2, hS3⟩ := hSw; go_simp; try with_reducible rfl)
      simp only [Act.put, lay9]
      refine tk 11 (v := ?_) rfl ?_ hHeld ?_
      rotate_left
      · (intro w' hSw; obtain ⟨hS0, hS1, hS2, hS3⟩ := hSw; go_simp; try with_reducible rfl)
      simp only [Act.put, lay9]
      refine wpAnyH_take (i := 9) (v := .agg (Lo).toArray) rfl (by kernel_rfl) (by kernel_rfl) (by kernel_rfl) (fun _ _ _ h => h) (yieldsIf_load_mid (by kernel_rfl) 42 _ rfl (M) (0) rfl Lo _ (fun _ h => h.2.2.2) Tryz.underlying42 rfl hio') hHeld ?_
      simp only [Act.put, lay9]
      refine wpAnyH_ready (rs := [12]) (by kernel_rfl) (by simp) (AllReadyH.cons rfl (fun K hK => ?_) AllReadyH.nil)
      go_simp
      (with_reducible refine HP.out.1.mono ?_)
      rintro e w5 ⟨v, rfl, rfl, hb5⟩
      have hb5' : Below W.heap.size W w5 := (Below.refl _ _).drew.trans hb5
      have hz5 := keepB HP.out.2.1 hb5'
      have hQ5 := keepB HP.out.2.2.1 hb5'
      have hD5 := HP.out.2.2.2.1.keep hb5'
      have hG5 := keepB HP.out.2.2.2.2.1 hb5'
      have u0 : w5.cell? ⟨T, 0, none⟩ = some (.int .i64 (pI : Int)) := by rw [cell_row w5 T 0 _ _ hz5]; rfl
      have u1 : w5.cell? ⟨T, 1, none⟩ = some (.string ⟨pd.toArray⟩) := by rw [cell_row w5 T 1 _ _ hz5]; rfl
      have uq : w5.cell? ⟨N + 3, 0, none⟩ = some (.slice (some ⟨N + 2, 0, none⟩) 5 5) := by rw [cell_row w5 (N + 3) 0 _ _ hQ5]; rfl
      have ug : ∃ v, w5.cell? ⟨N + 2, k, none⟩ = some v := by
        rw [cell_row w5 (N + 2) k _ _ hG5, List.getElem?_toArray, strs_get _ k (by rw [prtL_len]; exact hk5)]
        exact ⟨_, rfl⟩
      obtain ⟨vg, ug⟩ := ug
      have ugf : w5.frozen? ⟨N + 2, k, none⟩ = false := frozen_of w5 (N + 2) k _ _ hG5
      have urD : w5.rangeAt M 0 Lo := by rw [← HS.out.2.2.2.1]; exact rangeL hD5
      refine hK.out _ _ ⟨u0, u1, uq, urD⟩ (fun hHeld => ?_)
      clear hK K
      (try simp only [Act.put, lay9])
      refine tk 13 (v := ?_) rfl ?_ hHeld ?_
      rotate_left
      · (intro w' hSw; obtain ⟨hS0, hS1, hS2, hS3⟩ := hSw; go_simp; try with_reducible rfl)
      simp only [Act.put, lay9]
      refine wpAnyH_ready (rs := [14]) (by kernel_rfl) (by simp) (AllReadyH.cons rfl (fun K hK => ?_) AllReadyH.nil)
      go_simp
      have hG6 := set_at w5 (N + 2) k _ (.string ⟨(Pl.partOf nm d k).toArray⟩) _ hG5
      rw [List.setIfInBounds_toArray, show (strs (prtL nm d k)).set k (.string ⟨(Pl.partOf nm d k).toArray⟩) = strs (prtL nm d (k + 1)) from by rw [← prtL_set nm d k hk5]; simp [strs, List.map_set]] at hG6
      have ho6 : ∀ g, g ≠ N + 2 → (w5.setCell ⟨N + 2, k, none⟩ (.string ⟨(Pl.partOf nm d k).toArray⟩)).heap[g]? = w5.heap[g]? := fun g hg => Below.heap_setCell _ _ _ _ hg
      have hb56 : Below (N + 2) w5 (w5.setCell ⟨N + 2, k, none⟩ (.string ⟨(Pl.partOf nm d k).toArray⟩)) := (Below.refl _ _).setCell (p := ⟨N + 2, k, none⟩) (Nat.le_refl _) _
      have hown6 : (w5.setCell ⟨N + 2, k, none⟩ (.string ⟨(Pl.partOf nm d k).toArray⟩)).ownsRow w3.heap.size 71 2 (.slice (some ⟨ga, 0, none⟩) 5 c) 5 (partCs d [1, 2, 3, 4, 5]) := by
        have hbT : Below wr.heap.size wr w5 := (HP.out.2.2.2.2.2.1.trans (hb5'.mono (by omega))).mono (by omega)
        exact own_set (own_below HK.out.1 hbT) (by omega) _ _
      generalize hw6 : World.setCell w5 _ _ = w6
      rw [hw6] at hG6 ho6 hb56 hown6
      have hz6 := (ho6 T (by omega)).trans hz5
      have hQ6 := (ho6 (N + 3) (by omega)).trans hQ5
      have hD6 : DigAt M sum w6 := (ho6 M (by omega)).trans hD5
      have x0 : w6.cell? ⟨T, 0, none⟩ = some (.int .i64 (pI : Int)) := by rw [cell_row w6 T 0 _ _ hz6]; rfl
      have x1 : w6.cell? ⟨T, 1, none⟩ = some (.string ⟨pd.toArray⟩) := by rw [cell_row w6 T 1 _ _ hz6]; rfl
      have xq : w6.cell? ⟨N + 3, 0, none⟩ = some (.slice (some ⟨N + 2, 0, none⟩) 5 5) := by rw [cell_row w6 (N + 3) 0 _ _ hQ6]; rfl
      have xrD : w6.rangeAt M 0 Lo := by rw [← HS.out.2.2.2.1]; exact rangeL hD6
      have hbT5 : Below (N + 2) wr w5 := (HP.out.2.2.2.2.2.1.mono (by omega)).trans (hb5'.mono (by omega))
      have hN6 : StBx N S X n w6 := (ho6 N (by omega)).trans ((hbT5.block N (by omega)).trans HK.out.2.2.2.2.1)
      have hR6 : StBx (N + 1) (fun _ => Pl.noSh) (fun _ => ⟨none, 0, none, 0⟩) 0 w6 := (ho6 (N + 1) (by omega)).trans ((hbT5.block (N + 1) (by omega)).trans HK.out.2.2.2.2.2.1)
      have hbw6 : Below N w w6 := (HP.out.2.2.2.2.2.2.trans (hb5'.mono (by omega))).trans (hb56.mono (by omega))
      have HE := Lib.hid (And.intro hown6 (And.intro hD6 (And.intro hG6 (And.intro hQ6 (And.intro hN6 (And.intro hR6 hbw6))))))
      refine hK.out _ _ ⟨x0, x1, xq, xrD⟩ (fun hHeld => ?_)
      clear hK K
      (try simp only [Act.put, lay9])
      refine wpAnyH_done (by kernel_rfl) ?_ _
      clear hHeld hown6 hD6 hG6 hQ6 hN6 hR6 hbw6 hz6 hz5 hQ5 hD5 hG5 u0 u1 uq ug ugf urD x0 x1 xq xrD hw6 ho6 hb56 hbT5 hb5' hb5 HP HK t0 t1 q0 hrgD
      go_wp2_with fail
      go_roundw
      case rel => exact ⟨k + 1, by omega, ret_i (by omega), HE.out⟩
      case measure => simp only [intOf]; omega
    · obtain rfl : k = 5 := by omega
      obtain ⟨-, -, hG, hQ, hNx, hRx, hbx⟩ := HK.out
      have hput := putAll_any S X n hn wr (HH.out.2.2.1.below (by rw [hN]; exact hbx)) hfit nm 38 #[.pointer (some ⟨N + 3, 0, none⟩)] (Pl.partOf nm d) (fun a V => by kernel_rfl)
        (fun k hk U hU => by have h := write1_any (N + 3) (N + 2) (prtL nm d 5) (prtL_len _ _ _) k hk U (keepB hQ hU) (keepB hG hU); rw [prtL_all nm d hk] at h; exact h) (fun k hk => by have := Pl.part_len (nm := nm) (d := d) hnm hd k hk; omega)
      rw [HH.out.2.1] at hput
      obtain ⟨fe, hfe⟩ : ∃ fe, fstK 0 (putEr nm (Pl.partOf nm d) S n) 5 = fe := ⟨_, rfl⟩
      obtain ⟨S', hS'⟩ : ∃ S', putSh nm (Pl.partOf nm d) S n = S' := ⟨_, rfl⟩
      rw [hfe, hS'] at hput ⊢
      have hrg : wr.rangeAt N 0 L := by rw [← HH.out.2.1]; exact hNx.range
      have hiL := HH.out.2.2.2.1
      have HB := Lib.hid (And.intro hrg (And.intro hRx (And.intro hbx hput)))
      have HFE := Lib.hid (And.intro hfe hS')
      clear hrg hRx hbx hput hG hQ hNx HK hfe hS' HC HS
      go_wp2_with first
        | with_reducible refine wpList_load_mid rfl 33 _ rfl N 0 rfl L _ HB.out.1 Tryz.underlying33 rfl hiL ?_
      (with_reducible refine HB.out.2.2.2.mono ?_)
      rintro _ w9 ⟨v, rfl, ⟨X2, rfl, hst2⟩, hb2⟩
      obtain ⟨L2, hL2⟩ : ∃ L2, stoL S' X2 (Pl.leftAt n 5) = L2 := ⟨_, rfl⟩
      rw [hL2]
      have h22 := HB.out.2.1.keep hb2
      have hT : w9.there (N + 1) 0 L2.toArray.size := thereL h22 (by rw [← hL2]; exact Nat.le_refl 11)
      have hi2 : (Tryz.prog.info? 33).map (·.size) = some L2.toArray.size := by rw [List.size_toArray, ← hL2]; exact info_sto
      have hi2' : (Tryz.prog.info? 33).map (·.size) = some L2.length := by rw [← hL2]; exact info_sto
      have ho2 : ∀ v ∈ L2, v.oneCell' = true := by rw [← hL2]; exact stoL_one _ X2 _
      have hbsz := HB.out.2.2.1.size
      have HC := Lib.hid (And.intro hT (And.intro hi2 (And.intro ho2 (And.intro hi2' (And.intro hL2 (And.intro hst2 (And.intro h22 hb2)))))))
      clear hT hi2 ho2 hi2' hL2 hst2 h22 hb2
      go_wp2_with first
        | with_reducible refine wpList_store_mid rfl 33 _ _ rfl (N + 1) 0 L2.toArray rfl rfl HC.out.1 HC.out.2.1 (all_oneCell_toArray HC.out.2.2.1) ?_
      have hst3 : StF N (w9.setCells (N + 1) 0 L2) S' X2 := (HC.out.2.2.2.2.2.1.weak (b' := N) (by omega)).kpt (HC.out.2.2.2.2.2.2.1.kpts L2)
      refine bodyPost_ret (v := .tuple #[.agg L2.toArray, .int .i64 (fe : Int)]) (results_sto2 (B := N + 1) rfl rfl rfl (World.rangeAt_setCells_same _ _ _ _ (by have := HC.out.1; simpa using this)) HC.out.2.2.2.1) rfl ?_
      exact ⟨_, rfl, ⟨X2, by rw [HFE.out.1, HFE.out.2, HC.out.2.2.2.2.1], by rw [hN, HFE.out.2]; exact hst3⟩, by rw [hN]; exact (HB.out.2.2.1.trans (HC.out.2.2.2.2.2.2.2.mono (by omega))).trans (Lib.below_setCells_w (by omega) L2 0 w9)⟩
end Go.Proofs.YtdnebgilkfafhaaGreatDoor
