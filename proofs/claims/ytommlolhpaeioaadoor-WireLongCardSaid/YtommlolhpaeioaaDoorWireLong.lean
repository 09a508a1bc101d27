/- WireLong holds: a chunk of any bytes is carried, if it isn't too long; a name likewise. No condition. -/
import Derived.Test.YtommlolhpaeioaaDoorLaid
import Derived.Test.YtommlolhpaeioaaDoorTie
import Derived.Test.YtommlolhpaeioaaDoorCards
import Derived.Deep.DeepHandedRow
import Derived.Deep.DeepWitnessRowRef
import Derived.Lib.LaidTab
import Derived.Test.YtommlolhpaeioaaDoorWireG
import Derived.Deep.OwnRows
import Derived.Test.YtommlolhpaeioaaDoorWireK
import Derived.Test.YtommlolhpaeioaaDoorWireS
import Derived.Test.YtommlolhpaeioaaDoorOpen8
namespace Go.Proofs.YtommlolhpaeioaaDoor
open Go.ChangeShapes Go.WideShapes Go.ChangeAt Go.RowKit
set_option linter.unusedVariables false
set_option linter.unusedSimpArgs false
attribute [local go_sem] ba_get ba_cut ba_add
theorem wput_two (m : Pl.Msg) : (Pl.wput m).2 = Pl.wchk m := by
  by_cases h : Pl.wchk m = 0
  · rw [Pl.wput_ok h, h]
  · rw [Pl.wput_no h]
theorem fitM0 : MgFit Pl.zeroM := ⟨by decide, fit_zero⟩
theorem wput_len {m : Pl.Msg} (hm : Pl.MOk m) (h : Pl.wchk m = 0) : 0 < (Pl.wput m).1.length ∧ (Pl.wput m).1.length ≤ 2816046 := by
  rw [Pl.wput_ok h]
  have h1 := Pl.rowB_len_le [Lib.itoa m.k, Pl.bodyM m] 704011 (Pl.row_short (Pl.wOk_of h) hm)
  simp only [show ([Lib.itoa m.k, Pl.bodyM m] : List (List UInt8)).length = 2 from rfl] at h1
  have h2 := List.length_pos_iff.2 (Pl.lenB_ne (Lib.itoa m.k).length)
  have h3 : (Pl.rowB [Lib.itoa m.k, Pl.bodyM m]).length = (Pl.lenB (Lib.itoa m.k).length).length + ((Lib.itoa m.k).length + (Pl.rowB [Pl.bodyM m]).length) := by simp [Pl.rowB]
  constructor <;> simp only <;> omega
theorem made_reps (z : Value) (n : Nat) : madeCells #[z] n = (List.replicate n z).toArray := by
  apply Array.toList_inj.1
  rw [toList_madeCells_one]
theorem info_byte : (Tryd.prog.info? 5).map (fun i => (i.zero, i.size, i.bytes)) = some (some (.int .u8 0), 1, 1) := by kernel_rfl
/-- A row of N bytes, the first k of which are c. -/
def fillL (N k c : Nat) : List Value := List.replicate k (.int .u8 c) ++ List.replicate (N - k) (.int .u8 0)
theorem fillL_len {N k c : Nat} (h : k ≤ N) : (fillL N k c).length = N := by simp [fillL]; omega
theorem fillL_zero (N c : Nat) : fillL N 0 c = List.replicate N (.int .u8 0) := by simp [fillL]
theorem fillL_set {N k c : Nat} (h : k < N) : (fillL N k c).set k (.int .u8 c) = fillL N (k + 1) c := by
  unfold fillL
  rw [List.set_append_right _ _ (by simp), List.length_replicate, Nat.sub_self]
  obtain ⟨r, hr⟩ : ∃ r, N - k = r + 1 := ⟨N - k - 1, by omega⟩
  rw [hr, List.replicate_succ, List.set_cons_zero, show N - (k + 1) = r by omega, List.replicate_succ', List.append_assoc]; rfl
theorem fillL_all (N c : Nat) : fillL N N c = List.replicate N (.int .u8 c) := by simp [fillL]
def msgD (k : Int) (d : List UInt8) : Pl.Msg := ⟨k, d, Pl.zeroS, 0, 0⟩
theorem wpList_build_kd {L : List Value} (k : Int) (r : Nat) (d : List UInt8) (hL : mgL (msgD k d) cx0 = L) {ops : Array Oper} {rest : List Oper} {op : Oper} {a : Act} {w : World} {Q : Exit → Act → World → Prop} (hgd : op.guard = none) (ho : op.op = .build 31 #[(0, .const (.int .i64 k)), (1, .tmp r)])
    (hr : a.eval (.tmp r) = .string ⟨d.toArray⟩)
    (h : wpList Tryd.prog ops Q rest (a.put op.dst (.agg L.toArray)) w) : wpList Tryd.prog ops Q (op :: rest) a w :=
  wpList_plain hgd fun _ hK => by
    have hb : (Instr.build 31 #[(0, .int .i64 k), (1, .string ⟨d.toArray⟩)]).run Tryd.prog w = .ok (.agg (mgL (msgD k d) cx0).toArray) w := run_build w 31 _ _ (by kernel_rfl)
    have hc : a.eval (.const (.int .i64 k)) = .int .i64 k := rfl
    unfold Oper.wp execOp
    simp only [ho, List.map_toArray, List.map_cons, List.map_nil, hr, hc, Sem.run_bind, hb, Result.andThen_ok, Sem.run_pure]
    rw [hL]
    exact hK _ _ h
theorem mokD {k : Int} (h : 1 ≤ k ∧ k ≤ 6) (d : List UInt8) : Pl.MOk (msgD k d) := ⟨rfl, (by decide : 0 ≤ Pl.zeroS.clock ∧ Pl.zeroS.clock < 18446744073709551616), Pl.i64_small h, (i64_mk (by decide) (by decide) : Pl.I64 0), (i64_mk (by decide) (by decide) : Pl.I64 0)⟩
theorem fitD (k : Int) {d : List UInt8} (h : d.length ≤ 140737488355328) : MgFit (msgD k d) := ⟨h, fit_zero⟩
theorem wchk_put (d : List UInt8) : Pl.wchk (msgD 1 d) = if 65536 < d.length then 6 else 0 := by
  have h1 : Pl.knownM (msgD 1 d) = true := decide_eq_true (by show (1 : Int) ≤ 1 ∧ (1 : Int) ≤ 6; decide)
  have h2 : Pl.aloneM (msgD 1 d) = true := by unfold Pl.aloneM; rw [bareM_12 (.inl rfl)]; show Pl.emptyM ⟨1, [], Pl.zeroS, 0, 0⟩ = true; decide +kernel
  unfold Pl.wchk
  rw [if_neg (by rw [h1]; simp), if_neg (by rw [h2]; simp)]
  unfold Pl.kindE
  rw [if_pos (show (msgD 1 d).k = 1 from rfl)]; rfl
theorem wchk_told (d : List UInt8) : Pl.wchk (msgD 2 d) = if d.length < 1 ∨ 100 < d.length then 1 else 0 := by
  have h1 : Pl.knownM (msgD 2 d) = true := decide_eq_true (by show (1 : Int) ≤ 2 ∧ (2 : Int) ≤ 6; decide)
  have h2 : Pl.aloneM (msgD 2 d) = true := by unfold Pl.aloneM; rw [bareM_12 (.inr rfl)]; show Pl.emptyM ⟨2, [], Pl.zeroS, 0, 0⟩ = true; decide +kernel
  unfold Pl.wchk
  rw [if_neg (by rw [h1]; simp), if_neg (by rw [h2]; simp)]
  unfold Pl.kindE
  rw [if_neg (show ¬ (msgD 2 d).k = 1 from by show ¬ (2 : Int) = 1; decide), if_pos (show (msgD 2 d).k = 2 from rfl)]; rfl
theorem fill_cell {w : World} {H N j c : Nat} (h : w.heap[H]? = some (.cells (fillL N N c).toArray 5 (0, 0))) (hc : c < 256) (hj : j < N) : w.cell? ⟨H, 0 + j, none⟩ = some (.int .u8 ((UInt8.ofNat c).toNat : Int)) := by
  rw [Nat.zero_add, cell_row w H j _ _ h, fillL_all]
  have : (UInt8.ofNat c).toNat = c := by simp [UInt8.toNat_ofNat']; omega
  simp [hj, this]
theorem conv_fill {w : World} {H N m cap c : Nat} (h : w.heap[H]? = some (.cells (fillL N N c).toArray 5 (0, 0))) (hc : c < 256) (hm : m ≤ N) : (convert 53 9 (.slice (some ⟨H, 0, none⟩) m cap)).run Tryd.prog w = .ok (.string ⟨(List.replicate m (UInt8.ofNat c)).toArray⟩) w :=
  conv_bytes w H 0 m cap _ (by simp) fun j hj => by
    rw [fill_cell h hc (by simp at hj; omega)]; simp
set_option maxRecDepth 100000 in
set_option maxHeartbeats 8000000 in
theorem wireLong_walk (n c : Nat) (w : World) (hn : n < 256) (hc : c < 256) (hv : VNum w) :
    Calls Tryd.prog 9 #[.int .u8 n, .int .u8 c] w (RetB (fun v _ => v = .bool true) w) := by
  have HV := Lib.hid hv; clear hv
  obtain ⟨r, hr⟩ : ∃ r, n % 12 = r := ⟨_, rfl⟩
  have hr12 : r < 12 := by omega
  have hri : (n : Int) % 12 = (r : Int) := by omega
  obtain ⟨N, hN⟩ : ∃ N, 65530 + r = N := ⟨_, rfl⟩
  have hNi : (65530 : Int) + (r : Int) = (N : Int) := by omega
  have hN1 : 65530 ≤ N := by omega
  have hN2 : N ≤ 65541 := by omega
  clear hr hN hr12
  have hmk := fun W => run_make_row' (P := Tryd.prog) 53 5 (.int .u8 0) 1 Tryd.underlying53 info_byte rfl .i64 .i64 N (by omega) (by omega) W
  obtain ⟨D, hD⟩ : ∃ D, List.replicate N (UInt8.ofNat c) = D := ⟨_, rfl⟩
  obtain ⟨D2, hD2⟩ : ∃ D, List.replicate n (UInt8.ofNat c) = D := ⟨_, rfl⟩
  have hDl : D.length = N := by rw [← hD]; simp
  have hD2l : D2.length = n := by rw [← hD2]; simp
  have hcv : ∀ (W : World) (H cap : Nat), W.heap[H]? = some (.cells (fillL N N c).toArray 5 (0, 0)) → (convert 53 9 (.slice (some ⟨H, 0, none⟩) N cap)).run Tryd.prog W = .ok (.string ⟨D.toArray⟩) W := fun W H cap h => by rw [← hD]; exact conv_fill h hc (Nat.le_refl _)
  have hcv2 : ∀ (W : World) (H cap : Nat), W.heap[H]? = some (.cells (fillL N N c).toArray 5 (0, 0)) → (convert 53 9 (.slice (some ⟨H, 0, none⟩) n cap)).run Tryd.prog W = .ok (.string ⟨D2.toArray⟩) W := fun W H cap h => by rw [← hD2]; exact conv_fill h hc (by omega)
  have p1 := fun W hv => wput_any (msgD 1 D) cx0 W (ok_zero W) (fitD 1 (by rw [hDl]; omega)) (mokD (by decide) D) hv
  have p2 := fun W hv => wput_any (msgD 2 D2) cx0 W (ok_zero W) (fitD 2 (by rw [hD2l]; omega)) (mokD (by decide) D2) hv
  have e1 := wput_two (msgD 1 D)
  have e2 := wput_two (msgD 2 D2)
  rw [wchk_put, hDl] at e1
  rw [wchk_told, hD2l] at e2
  have gg : ¬ 65536 < N → Pl.wget (Pl.wput (msgD 1 D)).1 = (msgD 1 D, 0) ∧ (Pl.wput (msgD 1 D)).1.length ≤ 2816046 := fun h => by
    have hz : Pl.wchk (msgD 1 D) = 0 := by rw [wchk_put, hDl, if_neg h]
    exact ⟨Pl.wget_put hz (mokD (by decide) D), (wput_len (mokD (by decide) D) hz).2⟩
  have n1 : 65536 < N → (Pl.wput (msgD 1 D)).1 = [] := fun h => by rw [Pl.wput_no (by rw [wchk_put, hDl, if_pos h]; decide)]
  have n2 : (n < 1 ∨ 100 < n) → (Pl.wput (msgD 2 D2)).1 = [] := fun h => by rw [Pl.wput_no (by rw [wchk_told, hD2l, if_pos h]; decide)]
  obtain ⟨⟨B, E⟩, hP1⟩ : ∃ x, Pl.wput (msgD 1 D) = x := ⟨_, rfl⟩
  obtain ⟨⟨Y, F⟩, hP2⟩ : ∃ x, Pl.wput (msgD 2 D2) = x := ⟨_, rfl⟩
  rw [hP1] at p1 e1 gg n1
  rw [hP2] at p2 e2 n2
  simp only at e1 e2 gg n1 n2
  have HP := Lib.hid (And.intro p1 (And.intro p2 (And.intro gg (And.intro hcv hcv2))))
  have HE := Lib.hid (And.intro e1 n1)
  have HF := Lib.hid (And.intro (show 1 ≤ n → n ≤ 100 → F = 0 from fun h1 h2 => by rw [e2, if_neg (by omega)]) (show (n < 1 ∨ 100 < n) → F = 1 ∧ Y = [] from fun h => ⟨by rw [e2, if_pos h], n2 h⟩))
  clear p1 p2 gg hcv hcv2 e1 e2 n1 n2 hP1 hP2 hD hD2 hDl hD2l
  obtain ⟨L1, hL1⟩ : ∃ L, mgL (msgD 1 D) cx0 = L := ⟨_, rfl⟩
  obtain ⟨L2, hL2⟩ : ∃ L, mgL (msgD 2 D2) cx0 = L := ⟨_, rfl⟩
  have HL := Lib.hid (And.intro hL1 hL2); clear hL1 hL2
  go_enter Tryd.func9, Tryd.ntmps9
  go_wp2_with fail
  generalize hV : w.alloc _ = V
  have hz : V.heap[w.heap.size]? = some (.cells (fillL N 0 c).toArray 5 (0, 0)) := by rw [← hV, fillL_zero, ← made_reps]; exact heap_alloc_new w _
  have hbV : Below w.heap.size w V := by rw [← hV]; exact (Below.refl _ _).alloc (Nat.le_refl _) _
  clear hV hmk
  obtain ⟨H, hH⟩ : ∃ H, w.heap.size = H := ⟨_, rfl⟩
  rw [hH] at hz ⊢
  have HH := Lib.hid (And.intro hz (And.intro hbV hH)); clear hz hbV
  go_loopw [6] (fun i wr => ∃ (k : Nat), k ≤ N ∧ i = .int .i64 (k : Nat) ∧ wr.heap[H]? = some (.cells (fillL N k c).toArray 5 (0, 0)) ∧ Below H w wr) (fun i _ => N - (intOf i).toNat)
  case atStart => exact ⟨0, by omega, rfl, HH.out.1, by rw [← HH.out.2.2]; exact HH.out.2.1⟩
  case round =>
    obtain ⟨k, hk, rfl, hz, hb⟩ := hrel
    by_cases hkN : k < N
    · have hfz : wr.frozen? ⟨H, k, none⟩ = false := frozen_of wr H k _ _ hz
      have hcz : ∃ v, wr.cell? ⟨H, k, none⟩ = some v := by
        rw [cell_row wr H k _ _ hz, List.getElem?_toArray]
        exact ⟨_, List.getElem?_eq_getElem (by rw [fillL_len hk]; exact hkN)⟩
      obtain ⟨v0, hcz⟩ := hcz
      have hz2 := set_at wr H k _ (.int .u8 (c : Int)) _ hz
      rw [List.setIfInBounds_toArray, fillL_set hkN] at hz2
      have hb2 := hb.setCell (p := ⟨H, k, none⟩) (Nat.le_refl _) (.int .u8 (c : Int))
      have HZ2 := Lib.hid (And.intro hz2 hb2); clear hz2 hb2 hz
      go_wp2_with fail
      go_roundw
      case rel => exact ⟨k + 1, by omega, by go_num, HZ2.out.1, HZ2.out.2⟩
      case measure => simp [intOf]; omega
    · obtain rfl : k = N := by omega
      have HZ := Lib.hid hz
      rw [← HH.out.2.2] at hb
      have hcv := HP.out.2.2.2.1 wr H k hz
      clear hz
      go_wp2_with (with_reducible refine wpList_build_kd 1 30 D HL.out.1 rfl rfl rfl ?_)
      rw [← HL.out.1]
      (with_reducible refine (HP.out.1 _ (HV.out.tab.keep hb (Nat.le_refl _))).mono ?_)
      rintro e w1 ⟨v, rfl, rfl, hb1⟩
      rw [HL.out.1]
      unfold bytesV
      have hz1 := (hb1.block H (blk_lt HZ.out)).trans HZ.out
      have HZ1 := Lib.hid hz1
      replace hb1 := hb.trans (hb1.mono hb.size)
      have hcv2 := HP.out.2.2.2.2 w1 H k hz1
      have hnk : (n : Int) ≤ (k : Int) := by omega
      clear hb hz1 hcv
      go_wp2_with (with_reducible refine wpList_build_kd 2 40 D2 HL.out.2 rfl rfl rfl ?_)
      rw [← HL.out.2]
      (with_reducible refine (HP.out.2.1 _ (HV.out.tab.keep hb1 (Nat.le_refl _))).mono ?_)
      rintro e w2 ⟨v, rfl, rfl, hb2⟩
      rw [HL.out.2]
      unfold bytesV
      have HZ2 := Lib.hid ((hb2.block H (blk_lt HZ1.out)).trans HZ1.out)
      replace hb2 := hb1.trans (hb2.mono hb1.size)
      clear hb1 hcv2 hnk
      by_cases hg : 65536 < k
      · have hd : decide ((65536 : Int) < (k : Int)) = true := decide_eq_true (by omega)
        obtain rfl : E = 6 := by rw [HE.out.1, if_pos hg]
        obtain rfl : B = [] := HE.out.2 hg
        by_cases a1 : n < 1
        · have d1 : decide ((1 : Int) ≤ (n : Int)) = false := decide_eq_false (by omega)
          obtain ⟨rfl, rfl⟩ := HF.out.2 (.inl a1)
          go_wp2_with fail
          have hvz := HV.out.tab.keep (hb2) (Nat.le_refl _)
          (with_reducible refine (awake44_any _ hvz).mono ?_)
          rintro e wz ⟨v, rfl, rfl, hbz⟩
          have hdz := (hb2).trans (hbz.mono (hb2).size)
          clear hbz
          go_wp2_with fail
          go_ret
          exact ⟨_, rfl, rfl, hdz⟩
        have d1 : decide ((1 : Int) ≤ (n : Int)) = true := decide_eq_true (by omega)
        by_cases a2 : 100 < n
        · have d2 : decide ((n : Int) ≤ 100) = false := decide_eq_false (by omega)
          obtain ⟨rfl, rfl⟩ := HF.out.2 (.inr a2)
          go_wp2_with fail
          have hvz := HV.out.tab.keep (hb2) (Nat.le_refl _)
          (with_reducible refine (awake44_any _ hvz).mono ?_)
          rintro e wz ⟨v, rfl, rfl, hbz⟩
          have hdz := (hb2).trans (hbz.mono (hb2).size)
          clear hbz
          go_wp2_with fail
          go_ret
          exact ⟨_, rfl, rfl, hdz⟩
        have d2 : decide ((n : Int) ≤ 100) = true := decide_eq_true (by omega)
        obtain rfl := HF.out.1 (by omega) (by omega)
        go_wp2_with fail
        have hvz := HV.out.tab.keep (hb2) (Nat.le_refl _)
        (with_reducible refine (awake44_any _ hvz).mono ?_)
        rintro e wz ⟨v, rfl, rfl, hbz⟩
        have hdz := (hb2).trans (hbz.mono (hb2).size)
        clear hbz
        go_wp2_with fail
        go_ret
        exact ⟨_, rfl, rfl, hdz⟩
      have hd : decide ((65536 : Int) < (k : Int)) = false := decide_eq_false (by omega)
      obtain rfl : E = 0 := by rw [HE.out.1, if_neg hg]
      obtain ⟨hgt, hbl⟩ := HP.out.2.2.1 hg
      have wg := fun W h => wget_any B W (by omega) h
      unfold GetOut at wg
      rw [hgt] at wg
      have HWG := Lib.hid wg; clear wg hgt
      go_wp2_with fail
      (with_reducible refine (HWG.out _ (HV.out.keep hb2 (Nat.le_refl _))).mono ?_)
      rintro e w8 ⟨v, rfl, ⟨X1, rfl, hok1⟩, hb3⟩
      have HZ3 := Lib.hid ((hb3.block H (blk_lt HZ2.out)).trans HZ2.out)
      replace hb3 := hb2.trans (hb3.mono hb2.size)
      clear hb2
      (try simp only)
      (try simp only at hok1)
      have hl1 : (mgL (msgD 1 D) X1).toArray.size = 45 := by rw [List.size_toArray]; exact mgL_len hok1
      have ho1 := mgL_one (msgD 1 D) X1
      have hd1 : (mgL (msgD 1 D) X1)[1]? = some (.string ⟨D.toArray⟩) := rfl
      obtain ⟨L3, hL3⟩ : ∃ L, mgL (msgD 1 D) X1 = L := ⟨_, rfl⟩
      rw [hL3] at hl1 ho1 hd1 ⊢
      have H1 := Lib.hid (And.intro hl1 (And.intro ho1 (show (Tryd.prog.info? 31).map (·.size) = some L3.toArray.size by rw [hl1]; exact info_msg)))
      clear hL3 hl1 ho1
      go_upto_region 12 with (with_reducible refine wpList_store_mid rfl 31 _ _ rfl w8.heap.size 0 L3.toArray rfl rfl (there_row (heap_alloc_new _ _) (by rw [H1.out.1]; exact Nat.le_of_ble_eq_true rfl)) H1.out.2.2 H1.out.2.1 ?_)
      generalize hW : World.setCells _ _ _ _ = w9
      have hb : Below w8.heap.size w8 w9 := by rw [← hW]; exact ((Below.refl _ _).alloc (Nat.le_refl _) _).trans (Lib.below_setCells_w (Nat.le_refl _) _ _ _)
      have hr3 : w9.rangeAt w8.heap.size 0 L3 := by
        rw [← hW]
        refine World.rangeAt_setCells_same _ _ _ _ (there_row (heap_alloc_new _ _) ?_)
        rw [show L3.toArray.toList.length = 45 by have := H1.out.1; simpa using this]; exact Nat.le_of_ble_eq_true rfl
      clear hW
      have hcd : w9.cell? ⟨w8.heap.size, 1, none⟩ = some (.string ⟨D.toArray⟩) := by have := hr3 1 _ hd1; rwa [Nat.zero_add] at this
      have hz4 := (hb.block H (blk_lt HZ3.out)).trans HZ3.out
      have hcv := HP.out.2.2.2.1 w9 H k hz4
      have hDD : (D == D) = true := by simp
      have hDD' : (D != D) = false := by simp
      replace hb3 := hb3.trans (hb.mono hb3.size)
      clear hb hr3 hz4 hd1
      obtain ⟨Q, hQ⟩ : ∃ h, w8.heap.size = h := ⟨_, rfl⟩
      rw [hQ] at hcd ⊢
      clear hQ
      by_cases a1 : n < 1
      · have d1 : decide ((1 : Int) ≤ (n : Int)) = false := decide_eq_false (by omega)
        obtain ⟨rfl, rfl⟩ := HF.out.2 (.inl a1)
        go_wp2_with fail
        have hvz := HV.out.tab.keep (hb3) (Nat.le_refl _)
        (with_reducible refine (awake44_any _ hvz).mono ?_)
        rintro e wz ⟨v, rfl, rfl, hbz⟩
        have hdz := (hb3).trans (hbz.mono (hb3).size)
        clear hbz
        go_wp2_with fail
        go_ret
        exact ⟨_, rfl, rfl, hdz⟩
      have d1 : decide ((1 : Int) ≤ (n : Int)) = true := decide_eq_true (by omega)
      by_cases a2 : 100 < n
      · have d2 : decide ((n : Int) ≤ 100) = false := decide_eq_false (by omega)
        obtain ⟨rfl, rfl⟩ := HF.out.2 (.inr a2)
        go_wp2_with fail
        have hvz := HV.out.tab.keep (hb3) (Nat.le_refl _)
        (with_reducible refine (awake44_any _ hvz).mono ?_)
        rintro e wz ⟨v, rfl, rfl, hbz⟩
        have hdz := (hb3).trans (hbz.mono (hb3).size)
        clear hbz
        go_wp2_with fail
        go_ret
        exact ⟨_, rfl, rfl, hdz⟩
      have d2 : decide ((n : Int) ≤ 100) = true := decide_eq_true (by omega)
      obtain rfl := HF.out.1 (by omega) (by omega)
      go_wp2_with fail
      have hvz := HV.out.tab.keep (hb3) (Nat.le_refl _)
      (with_reducible refine (awake44_any _ hvz).mono ?_)
      rintro e wz ⟨v, rfl, rfl, hbz⟩
      have hdz := (hb3).trans (hbz.mono (hb3).size)
      clear hbz
      go_wp2_with fail
      go_ret
      exact ⟨_, rfl, rfl, hdz⟩
-- FRAME
set_option maxRecDepth 100000 in
theorem wireLong_lifted (os : Os) (started : os.Started) (H : Type) (enc : TypeId × Value → H) :
    ReturnsInHanded {} Tryd.checked os 9 .any (fun w args => (Rows.wireLongSpec.pre enc Tryd.prog Tryd.f9 [] false w args ∧ laidMetH Tryd.prog tabs5 w) ∧ sizedMet enc Tryd.prog Tryd.f9 (OpenSpec.ofChange Rows.wireLongSpec) false w args) (Rows.wireLongSpec.post enc Tryd.prog Tryd.f9 false true false false) := by
  refine returnsInHanded_of_change_and (C := Tryd.checked) (X := fun w _ => laidMetH Tryd.prog tabs5 w) (fun _ _ _ hh h => h.of_heap hh) own started (by kernel_rfl) Tryd.func9
    (ChangeSpec.witness_shaped (enc := enc) (C := Tryd.checked) (os := os) (X := fun w _ => laidMetH Tryd.prog tabs5 w) false (World.doorLaid Tryd.prog 100 os) #[.int .u8 0, .int .u8 0] 8 rfl (World.shaped_of_RefB (by kernel_rfl) (by kernel_rfl)) (by kernel_rfl) (by kernel_rfl) (by kernel_rfl) (door_met5 os _)) ?_
  intro W base args ds gs before hval0 hW hcnd hsz0 hL _
  have hvars := vnum_of5 hL
  have hval : ∀ (j : Nat) t v, Tryd.f9.params[j]? = some t → args[j]? = some v → Value.okWide Tryd.prog W .any base t v := hval0
  have hW' := hW
  obtain ⟨p, q, hA0, hV, rfl, hfz, hnd⟩ := hW
  have hA : DataW.TrodAll enc Tryd.prog W 0 (fun _ => true) true Tryd.f9.params.toList args.toList ds p := hA0
  have hsz : (DataW.weightsEach Tryd.prog (Tryd.f9.params.toList ++ Rows.wireLongSpec.plain.varTypes Tryd.prog) (ds ++ gs)).all (· ≤ reachBytes) = true := hsz0
  rw [Tryd.params9] at hA hval hsz
  obtain ⟨v0, vs0, d0, ds0, p0, q0, hargs, rfl, rfl, h0, r0⟩ := trodAll_cons hA
  obtain ⟨v1, vs1, d1, ds1, p1, q1, rfl, rfl, rfl, h1, r1⟩ := trodAll_cons r0
  obtain ⟨rfl, rfl, rfl⟩ := trodAll_nil r1
  obtain rfl : args = #[v0, v1] := by cases args; simp_all
  obtain ⟨rfl, rfl⟩ := trodVars_none hV
  have k0 := h0
  have lt0 : ∀ x ∈ p0, x.block < W.heap.size := by obtain ⟨m, hm⟩ := k0; exact DataW.trod_lt m _ _ _ hm
  have hz0 : ∀ m ∈ d0.weights Tryd.prog 5, m ≤ reachBytes := fun m hm => by
    have h1 := List.all_eq_true.1 hsz m (DataW.weights_mem_each (j := 0) rfl rfl m hm)
    simpa using h1
  obtain ⟨x0, rfl, eA0⟩ := open_u8 (hval 0 5 v0 rfl rfl) h0 hz0
  have k1 := h1
  have lt1 : ∀ x ∈ p1, x.block < W.heap.size := by obtain ⟨m, hm⟩ := k1; exact DataW.trod_lt m _ _ _ hm
  have hz1 : ∀ m ∈ d1.weights Tryd.prog 5, m ≤ reachBytes := fun m hm => by
    have h1 := List.all_eq_true.1 hsz m (DataW.weights_mem_each (j := 1) rfl rfl m hm)
    simpa using h1
  obtain ⟨x1, rfl, eA1⟩ := open_u8 (hval 1 5 v1 rfl rfl) h1 hz1
  clear hA0 hval0 hsz0
  refine (wireLong_walk x0 x1 W eA0 eA1 hvars).mono fun e W' ⟨v, he, hv, bel⟩ => ?_
  subst he hv
  exact ⟨_, rfl, _, _, _, [], _, [], hW', trodAll_mk1 (shut_bool Tryd.underlying4 _), (trodAll_cons_mk (Below.trod laidOut (by kernel_rfl) (of_decide_eq_true (by kernel_rfl)) k0 bel lt0) (trodAll_cons_mk (Below.trod laidOut (by kernel_rfl) (of_decide_eq_true (by kernel_rfl)) k1 bel lt1) trodAll_mk0)), rfl, bel.frame _, fun h => by cases h⟩

theorem wireLong_row : Rows.WireLongSaid :=
  OpenClaim.holds_of_wide 9 Tryd.f9 rfl rfl rfl rfl rfl rfl rfl ⟨rfl, rfl, rfl, rfl, rfl⟩ rfl rfl rfl rfl rfl (by kernel_rfl) Tryd.func9 (by kernel_rfl)
    (of_decide_eq_true (by kernel_rfl)) (by unfold Func.isWrapper; first | (rw [if_pos (by decide +kernel)]; kernel_rfl) | (rw [if_neg (by decide +kernel)]; exact ⟨rfl, rfl⟩))
    (fun os started H enc _ => wireLong_lifted os started H enc)

theorem wireLong_holds : Rows.WireLongCardSaid :=
  Claim7.holds_tied_plain_at .later [] [.data, .data, .data, .sentinel, .sentinel] true (true, "8c7f5076b4464b0d47fcd8bd876a472c897cfef33dbc23ff4e6154515a454f93") true
    wireLong_row (fun _ h => by cases h) (by kernel_rfl) (fun _ h => by cases h) wireLong_row_tie rfl ⟨rfl, rfl⟩ (by kernel_rfl) rfl
    (fun f fn hf hfn => by
      obtain rfl : f = 9 := Option.some.inj ((show Tryd.prog.funcNamed "hibernacle/hibernaclelaw44.WireLong" = some 9 by kernel_rfl).symm.trans hf) |>.symm
      obtain rfl : fn = Tryd.f9 := (Option.some.inj (Tryd.func9.symm.trans hfn)).symm
      exact ⟨by kernel_rfl, fun j t ht => by
        rw [Tryd.params9] at ht
        rcases j with _ | _ | _ | _ | j
        all_goals first
          | (simp at ht; done)
          | (have h3 := Option.some.inj ht; subst h3; exact (show Tryd.prog.wantsStandIn _ = false by kernel_rfl))⟩)
    (by kernel_rfl)
#print axioms wireLong_holds
end Go.Proofs.YtommlolhpaeioaaDoor
