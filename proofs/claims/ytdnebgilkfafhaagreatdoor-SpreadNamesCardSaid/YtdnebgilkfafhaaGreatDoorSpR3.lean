/- The walk of spread's Vote under a name that may be. -/
import Derived.Test.YtdnebgilkfafhaaGreatDoorSpR1
namespace Go.Proofs.YtdnebgilkfafhaaGreatDoor
open Go.RowKit
set_option linter.unusedVariables false
set_option linter.unusedSimpArgs false
attribute [local go_sem] ba_get ba_cut ba_add
/-- The first that three shelves tell alike. -/
def voteF : List Pl.Told → List Pl.Told → Option (List UInt8)
  | [], _ => none
  | t :: r, l => if t.err = 0 ∧ 3 ≤ Pl.alikeN t l then some t.data else voteF r l
def voteO (l : List Pl.Told) : Option (List UInt8) := voteF l l
theorem alikeN_cons (x u : Pl.Told) (r : List Pl.Told) : Pl.alikeN x (u :: r) = (if u.err = 0 ∧ u.data = x.data then 1 else 0) + Pl.alikeN x r := by
  unfold Pl.alikeN
  rw [List.filter_cons]
  by_cases h : u.err = 0 ∧ u.data = x.data
  · rw [if_pos h, if_pos (by simp [h])]; simp; omega
  · rw [if_neg h, if_neg (by simpa using h)]; simp
theorem mk_inj {a b : List UInt8} (h : (⟨a.toArray⟩ : ByteArray) = ⟨b.toArray⟩) : a = b := by
  have := congrArg (fun x => x.data.toList) h
  simpa using this
set_option maxRecDepth 100000 in
set_option maxHeartbeats 8000000 in
theorem svote_good (S : Nat → Pl.Shelf) (X : Nat → ShX) (n : Int) (hn : Pl.I64 n) (nm : List UInt8) (w : World) (hok : StOk w S X) (hfit : FitS S) (hgood : Pl.okName nm = true) :
    Calls Tryz.prog 18 #[.agg (stoL S X n).toArray, .string ⟨nm.toArray⟩] w (RetB (fun v w' => ReadOut w.heap.size (getSh nm S n) (Pl.leftAt n 5) (ansD (voteO ((List.range 5).map (getTo nm S n)))) (ansE (Pl.whyE ((List.range 5).map (getTo nm S n))) (voteO ((List.range 5).map (getTo nm S n)))) v w') w) := by
  have hmay := fun W => smayName_any nm W
  rw [hgood] at hmay
  obtain ⟨N, hN⟩ : ∃ N, w.heap.size = N := ⟨_, rfl⟩
  have hget := fun W (h : StOk W S X) => getAll_any S X n hn W h hfit nm
  obtain ⟨S', hS'⟩ : ∃ S', getSh nm S n = S' := ⟨_, rfl⟩
  obtain ⟨t, ht⟩ : ∃ t, getTo nm S n = t := ⟨_, rfl⟩
  obtain ⟨m', hm'⟩ : ∃ m', Pl.leftAt n 5 = m' := ⟨_, rfl⟩
  rw [hS', ht, hm'] at hget
  rw [hS', ht, hm']
  obtain ⟨F, hF⟩ : ∃ F, voteO ((List.range 5).map t) = F := ⟨_, rfl⟩
  obtain ⟨e9, he9⟩ : ∃ e9, Pl.whyE ((List.range 5).map t) = e9 := ⟨_, rfl⟩
  rw [hF, he9]
  have HR0 := Lib.hid (show voteF (tolFrom t 0) ((List.range 5).map t) = F from hF)
  have HR9 := Lib.hid he9
  clear hF he9 hS' ht hm'
  obtain ⟨L, hL⟩ : ∃ L, stoL S X n = L := ⟨_, rfl⟩
  rw [hL] at hget ⊢
  have hiL : (Tryz.prog.info? 33).map (·.size) = some L.length := by rw [← hL]; exact info_sto
  have HH := Lib.hid (And.intro hmay (And.intro hget (And.intro hL (And.intro hok hiL))))
  clear hmay hget hL hok hiL hgood
  go_enter Tryz.func18, Tryz.ntmps18
  go_upto_region 1 with (fail)
  rw [zero_sto]
  generalize hV : World.alloc _ (.cells (stoL (fun _ => Pl.noSh) (fun _ => ⟨none, 0, none, 0⟩) 0).toArray 33) = V
  have hVa : allocs w [.cells L.toArray 33, .cells (stoL (fun _ => Pl.noSh) (fun _ => ⟨none, 0, none, 0⟩) 0).toArray 33] = V := hV
  have hbV : Below N w V := by rw [← hVa]; exact allocs_below w _ N (by omega)
  have hsV : V.heap.size = N + 2 := by rw [← hVa, allocs_size, hN]; simp only [List.length_cons, List.length_nil]
  have h0 : StBx N S X n V := by unfold StBx; rw [HH.out.2.2.1]; exact allocs_at hVa hN 0 rfl
  have h2 : StBx (N + 1) (fun _ => Pl.noSh) (fun _ => ⟨none, 0, none, 0⟩) 0 V := allocs_at hVa hN 1 rfl
  have hrg : V.rangeAt N 0 L := by rw [← HH.out.2.2.1]; exact h0.range
  have HB := Lib.hid (And.intro hrg (And.intro h0 (And.intro h2 hbV)))
  clear hV hVa hrg h0 h2 hbV
  go_upto_region 3 with (with_reducible refine (HH.out.1 V).mono ?_)
  rintro _ w1 ⟨rfl, rfl⟩
  go_upto_region 4 with first
    | with_reducible refine wpList_load_mid rfl 33 _ rfl N 0 rfl L _ HB.out.1 Tryz.underlying33 rfl HH.out.2.2.2.2 ?_
    | (with_reducible refine (HH.out.2.1 V (HH.out.2.2.2.1.below (by rw [hN]; exact HB.out.2.2.2))).mono ?_)
  rintro _ w2 ⟨v, rfl, ⟨X2, rfl, hst2⟩, hb2⟩
  obtain ⟨L2, hL2⟩ : ∃ L2, stoL S' X2 m' = L2 := ⟨_, rfl⟩
  obtain ⟨LT, hLT⟩ : ∃ LT, tolL t = LT := ⟨_, rfl⟩
  rw [hL2, hLT]
  have hi2 : (Tryz.prog.info? 33).map (·.size) = some L2.toArray.size := by rw [List.size_toArray, ← hL2]; exact info_sto
  have hi2' : (Tryz.prog.info? 33).map (·.size) = some L2.length := by rw [← hL2]; exact info_sto
  have ho2 : ∀ v ∈ L2, v.oneCell' = true := by rw [← hL2]; exact stoL_one _ X2 _
  have hit : (Tryz.prog.info? 78).map (·.size) = some LT.toArray.size := by rw [List.size_toArray, ← hLT]; exact info_tol
  have hit' : (Tryz.prog.info? 78).map (·.size) = some LT.length := by rw [← hLT]; exact info_tol
  have hot' : ∀ v ∈ LT, v.oneCell' = true := by rw [← hLT]; exact tolL_one _
  have hl2 : L2.length = 11 := by rw [← hL2]; rfl
  have hlt : LT.length = 15 := by rw [← hLT]; rfl
  have hbA : Below w2.heap.size w2 (w2.alloc (.cells zT 78)) := (Below.refl _ _).alloc (Nat.le_refl _) _
  have h0A : StBx N S X n (w2.alloc (.cells zT 78)) := (HB.out.2.1.keep hb2).keep hbA
  have h1A : StBx (N + 1) (fun _ => Pl.noSh) (fun _ => ⟨none, 0, none, 0⟩) 0 (w2.alloc (.cells zT 78)) := (HB.out.2.2.1.keep hb2).keep hbA
  have hqA : (w2.alloc (.cells zT 78)).heap[w2.heap.size]? = some (.cells zT 78 (0, 0)) := heap_alloc_new _ _
  have hs2 : N + 2 ≤ w2.heap.size := by have := hb2.size; omega
  have hTa : (w2.alloc (.cells zT 78)).there N 0 L2.toArray.size := thereL h0A (by rw [List.size_toArray, hl2]; exact Nat.le_refl 11)
  have hsA := blk_lt hqA
  have h0B : ((w2.alloc (.cells zT 78)).setCells N 0 L2).heap[N]? = some (.cells L2.toArray 33 (0, 0)) := heap_setCells_all h0A (by rw [hl2]; rfl)
  have hoB : ∀ g, g ≠ N → g < (w2.alloc (.cells zT 78)).heap.size → ((w2.alloc (.cells zT 78)).setCells N 0 L2).heap[g]? = (w2.alloc (.cells zT 78)).heap[g]? := fun g hg hs => World.heap_setCells_other _ _ _ _ hs hg
  have hqB := (hoB w2.heap.size (by omega) hsA).trans hqA
  have h1B := (hoB (N + 1) (by omega) (by omega)).trans h1A
  have hTb : ((w2.alloc (.cells zT 78)).setCells N 0 L2).there w2.heap.size 0 LT.toArray.size := thereL hqB (by rw [List.size_toArray, hlt]; exact Nat.le_refl 15)
  have hsB := blk_lt hqB
  have hqC : (((w2.alloc (.cells zT 78)).setCells N 0 L2).setCells w2.heap.size 0 LT).heap[w2.heap.size]? = some (.cells LT.toArray 78 (0, 0)) := heap_setCells_all (C := zT.toList) hqB (by rw [hlt]; rfl)
  have hoC : ∀ g, g ≠ w2.heap.size → g < ((w2.alloc (.cells zT 78)).setCells N 0 L2).heap.size → (((w2.alloc (.cells zT 78)).setCells N 0 L2).setCells w2.heap.size 0 LT).heap[g]? = ((w2.alloc (.cells zT 78)).setCells N 0 L2).heap[g]? := fun g hg hs => World.heap_setCells_other _ _ _ _ hs hg
  have h0C := (hoC N (by omega) (by omega)).trans h0B
  have h1C := (hoC (N + 1) (by omega) (by omega)).trans h1B
  have hbw : Below N w (((w2.alloc (.cells zT 78)).setCells N 0 L2).setCells w2.heap.size 0 LT) := ((((HB.out.2.2.2.trans (hb2.mono (by omega))).trans (hbA.mono (by omega)))).trans (Lib.below_setCells_w (Nat.le_refl N) L2 0 _)).trans (Lib.below_setCells_w (by omega) LT 0 _)
  have hstC : StF N (((w2.alloc (.cells zT 78)).setCells N 0 L2).setCells w2.heap.size 0 LT) S' X2 := (hst2.weak (b' := N) (by omega)).kpt (((KpT.below hbA).trans (h0A.kpts L2)).trans (KpT.sets hqB (by decide) (by decide) 0 LT))
  have HG := Lib.hid (And.intro hTa (And.intro hTb (And.intro ho2 (And.intro hot' (And.intro hi2 (And.intro hit (And.intro hi2' hit')))))))
  have HC := Lib.hid (And.intro (And.intro hbw hstC) (RdM.mk (S' := S') (X' := X2) h0C h1C hqC))
  have HE := Lib.hid (And.intro hL2 (And.intro hLT hl2))
  clear hTa hTb ho2 hot' hi2 hit hi2' hit' hbw hstC h0C h1C hqC hoC hoB hsA hsB h0A h1A hqA h0B h1B hqB hL2 hLT hl2 hlt hb2 hbA hst2
  go_upto_region 4 with first
    | with_reducible refine wpList_store_mid rfl 33 _ _ rfl N 0 L2.toArray rfl rfl HG.out.1 HG.out.2.2.2.2.1 (all_oneCell_toArray HG.out.2.2.1) ?_
    | with_reducible refine wpList_store_mid rfl 78 _ _ rfl w2.heap.size 0 LT.toArray rfl rfl HG.out.2.1 HG.out.2.2.2.2.2.1 (all_oneCell_toArray HG.out.2.2.2.1) ?_
  obtain ⟨Tq, hTq⟩ : ∃ Tq, w2.heap.size = Tq := ⟨_, rfl⟩
  rw [hTq] at HC
  simp only [hTq]
  obtain ⟨W3, hW3⟩ : ∃ W3, World.setCells (World.setCells (w2.alloc (.cells zT 78)) N 0 L2) Tq 0 LT = W3 := ⟨_, rfl⟩
  rw [hW3] at HC
  try simp only [hW3]
  have hNT : N + 2 ≤ Tq := by omega
  have hitq := HG.out.2.2.2.2.2.2.2
  have hi2q := HG.out.2.2.2.2.2.2.1
  have HI := Lib.hid (And.intro hitq hi2q)
  clear hTq hW3 HG hs2 HB hsV hitq hi2q
  have hrq : W3.rangeAt Tq 0 LT := rangeL HC.out.2.q
  go_upto_region 5 with (with_reducible refine wpList_load_mid rfl 78 _ rfl Tq 0 rfl LT _ hrq Tryz.underlying78 rfl HI.out.1 ?_)
  clear hrq
  obtain ⟨Q, hQ⟩ : ∃ Q, W3.heap.size = Q := ⟨_, rfl⟩
  have hTqQ : Tq < Q := by rw [← hQ]; exact blk_lt HC.out.2.q
  go_loopw [25] (fun iv wr => ∃ (k : Nat), k ≤ 5 ∧ iv = .int .i64 (k : Int) ∧ Hid (voteF (tolFrom t k) ((List.range 5).map t) = F) ∧ Hid (Below Q W3 wr)) (fun iv _ => 5 - (intOf iv).toNat)
  case atStart => exact ⟨0, by omega, rfl, HR0, Lib.hid (Below.refl _ _)⟩
  case round =>
    obtain ⟨k, hk, rfl, HF, HW⟩ := hrel
    have hsw3 : N ≤ Q := by omega
    by_cases hk5 : k < 5
    · have hidx := fun W => index_tol t hk5 W
      rw [HE.out.2.1] at hidx
      have hst := HF.out
      rw [tolFrom_step t hk5] at hst
      simp only [voteF] at hst
      obtain ⟨⟨td, te, tg⟩, htk⟩ : ∃ x, t k = x := ⟨_, rfl⟩
      rw [htk] at hidx hst
      simp only at hidx hst
      obtain ⟨al, hal⟩ : ∃ al, Pl.alikeN ⟨td, te, tg⟩ ((List.range 5).map t) = al := ⟨_, rfl⟩
      rw [hal] at hst
      have HST := Lib.hid hst
      have HAL := Lib.hid (show 0 + Pl.alikeN ⟨td, te, tg⟩ (tolFrom t 0) = al by rw [Nat.zero_add]; exact hal)
      clear hst htk hal
      obtain ⟨T, hT⟩ : ∃ T, wr.heap.size = T := ⟨_, rfl⟩
      go_upto_region 7 with (fail)
      generalize hW : World.alloc wr _ = W
      have hzW : W.heap[T]? = some (.cells #[.string ⟨td.toArray⟩, .int .i64 (te : Int), .bool tg] 77 (0, 0)) := by rw [← hW, ← hT]; exact heap_alloc_new _ _
      have hbr : Below wr.heap.size wr W := by rw [← hW]; exact (Below.refl _ _).alloc (Nat.le_refl _) _
      have hQT : Q ≤ T := by rw [← hT, ← hQ]; exact HW.out.size
      have hbW : Below Q W3 W := HW.out.trans (hbr.mono (by omega))
      have t0 : W.cell? ⟨T, 0, none⟩ = some (.string ⟨td.toArray⟩) := by rw [cell_row W T 0 _ _ hzW]; rfl
      have t1 : W.cell? ⟨T, 1, none⟩ = some (.int .i64 (te : Int)) := by rw [cell_row W T 1 _ _ hzW]; rfl
      have hTW : T < W.heap.size := blk_lt hzW
      have H1 := Lib.hid hbW
      try simp only [hT]
      clear hW hzW hbr hbW hT hidx HW wr
      by_cases h0 : te = 0
      · have h01 : ((te : Int) != 0) = false := by rw [h0]; rfl
        clear h0
        have hrq : W.rangeAt Tq 0 LT := rangeL (heap_keep HC.out.2.q (by rw [hQ]; exact H1.out))
        go_upto_region 10 with (with_reducible refine wpList_load_mid rfl 78 _ rfl Tq 0 rfl LT _ hrq Tryz.underlying78 rfl HI.out.1 ?_)
        clear hrq t1
        obtain ⟨QW, hQW⟩ : ∃ QW, W.heap.size = QW := ⟨_, rfl⟩
        rw [hQW] at hTW
        go_loopw [10, 32] (fun cv jv wr => ∃ (c j : Nat), j ≤ 5 ∧ c ≤ j ∧ cv = .int .i64 (c : Int) ∧ jv = .int .i64 (j : Int) ∧ Hid (c + Pl.alikeN ⟨td, te, tg⟩ (tolFrom t j) = al) ∧ Hid (Below QW W wr)) (fun _ jv _ => 5 - (intOf jv).toNat)
        case atStart => exact ⟨0, 0, by omega, by omega, rfl, rfl, HAL, Lib.hid (Below.refl _ _)⟩
        case round =>
          obtain ⟨c, j, hj, hcj, rfl, rfl, HA, HW⟩ := hrel
          have t0r : wr.cell? ⟨T, 0, none⟩ = some (.string ⟨td.toArray⟩) := (HW.out.cell (p := ⟨T, 0, none⟩) hTW).trans t0
          clear t0
          by_cases hj5 : j < 5
          · have hidx := fun W => index_tol t hj5 W
            rw [HE.out.2.1] at hidx
            have hst := HA.out
            rw [tolFrom_step t hj5, alikeN_cons] at hst
            obtain ⟨⟨ud, ue, ug⟩, htj⟩ : ∃ x, t j = x := ⟨_, rfl⟩
            rw [htj] at hidx hst
            simp only at hidx hst
            have HST2 := Lib.hid hst
            clear hst htj
            obtain ⟨T2, hT2⟩ : ∃ T2, wr.heap.size = T2 := ⟨_, rfl⟩
            go_upto_region 12 with (fail)
            generalize hW2 : World.alloc wr _ = W2
            have hz2 : W2.heap[T2]? = some (.cells #[.string ⟨ud.toArray⟩, .int .i64 (ue : Int), .bool ug] 77 (0, 0)) := by rw [← hW2, ← hT2]; exact heap_alloc_new _ _
            have hbr : Below wr.heap.size wr W2 := by rw [← hW2]; exact (Below.refl _ _).alloc (Nat.le_refl _) _
            have hTr : T < wr.heap.size := by have := HW.out.size; omega
            have a0 : W2.cell? ⟨T, 0, none⟩ = some (.string ⟨td.toArray⟩) := (hbr.cell (p := ⟨T, 0, none⟩) hTr).trans t0r
            have u0 : W2.cell? ⟨T2, 0, none⟩ = some (.string ⟨ud.toArray⟩) := by rw [cell_row W2 T2 0 _ _ hz2]; rfl
            have u1 : W2.cell? ⟨T2, 1, none⟩ = some (.int .i64 (ue : Int)) := by rw [cell_row W2 T2 1 _ _ hz2]; rfl
            have H2 := Lib.hid (HW.out.trans (hbr.mono (by have := HW.out.size; omega)))
            try simp only [hT2]
            clear hW2 hz2 hbr hT2 hidx t0r hTr HW wr
            by_cases hu : ue = 0
            · have hu1 : ((ue : Int) == 0) = true := by rw [hu]; rfl
              by_cases hd : ud = td
              · have hd1 : (ud == td) = true := by rw [hd]; simp
                have HN := Lib.hid (show (c + 1) + Pl.alikeN ⟨td, te, tg⟩ (tolFrom t (j + 1)) = al by have h := HST2.out; rw [if_pos ⟨hu, hd⟩] at h; omega)
                clear hu hd
                go_wp2_with fail
                go_roundw
                case rel => exact ⟨c + 1, j + 1, by omega, by omega, ret_i (by omega), ret_i (by omega), HN, H2⟩
                case measure => simp only [intOf]; omega
              · have hd1 : (ud == td) = false := by rw [beq_eq_false_iff_ne]; exact hd
                have HN := Lib.hid (show c + Pl.alikeN ⟨td, te, tg⟩ (tolFrom t (j + 1)) = al by have h := HST2.out; rw [if_neg (fun e => hd e.2)] at h; omega)
                clear hu hd
                go_wp2_with fail
                go_roundw
                case rel => exact ⟨c, j + 1, by omega, by omega, rfl, ret_i (by omega), HN, H2⟩
                case measure => simp only [intOf]; omega
            · have hu1 : ((ue : Int) == 0) = false := by rw [beq_eq_false_iff_ne]; omega
              have HN := Lib.hid (show c + Pl.alikeN ⟨td, te, tg⟩ (tolFrom t (j + 1)) = al by have h := HST2.out; rw [if_neg (fun e => hu e.1)] at h; omega)
              clear hu
              go_wp2_with fail
              go_roundw
              case rel => exact ⟨c, j + 1, by omega, by omega, rfl, ret_i (by omega), HN, H2⟩
              case measure => simp only [intOf]; omega
          · obtain rfl : j = 5 := by omega
            have hca : c = al := by have h := HA.out; rw [tolFrom_end] at h; simpa [Pl.alikeN] using h
            have HCA := Lib.hid hca
            clear hca
            have hbq : Below Q W3 wr := H1.out.trans (HW.out.mono (by omega))
            have h3 : RdM N Tq S' X2 L2 LT wr := HC.out.2.keep (by rw [hQ]; exact hbq)
            have hTr : T < wr.heap.size := by have := HW.out.size; omega
            by_cases h3c : 3 ≤ c
            · have h3b : decide ((3 : Int) ≤ (c : Int)) = true := by simp; omega
              have HFs := Lib.hid (show F = some td by have h := HST.out; rw [if_pos ⟨by simpa using h01, by rw [← HCA.out]; exact h3c⟩] at h; exact h.symm)
              have hbw5 : Below N w wr := HC.out.1.1.trans (hbq.mono hsw3)
              have hst5 : StF N wr S' X2 := HC.out.1.2.kpt (KpT.below (by rw [hQ]; exact hbq))
              have hl2 := HE.out.2.2
              have hi2' := HI.out.2
              have hlT := blk_lt h3.q
              have H5 := Lib.hid (And.intro h3 (And.intro hbw5 hst5))
              clear h3 hbw5 hst5 hbq
              go_upto_region 16 with (fail)
              refine wp_region_held_drew (S := (fun w' => w'.rangeAt N 0 L2 ∧ w'.cell? ⟨T, 0, none⟩ = some (.string ⟨td.toArray⟩))) (by kernel_rfl) (by exact ⟨rangeL H5.out.1.t, t0r⟩) (fun hHeld => ?_)
              refine wpAnyH_take (i := 0) (v := .agg (L2).toArray) rfl (by kernel_rfl) (by kernel_rfl) (by kernel_rfl) (fun _ _ _ h => h) (yieldsIf_load_mid (by kernel_rfl) 33 _ rfl (N) (0) rfl L2 _ (fun _ h => h.1) Tryz.underlying33 rfl hi2') hHeld ?_
              simp only [Act.put, lay9]
              refine tk 1 (v := ?_) rfl ?_ hHeld ?_
              rotate_left
              · (intro w' hSw; (try dsimp only at hSw); (try obtain ⟨hS0, hS1⟩ := hSw); go_simp; try with_reducible rfl)
              simp only [Act.put, lay9]
              refine tk 2 (v := ?_) rfl ?_ hHeld ?_
              rotate_left
              · (intro w' hSw; (try dsimp only at hSw); (try obtain ⟨hS0, hS1⟩ := hSw); go_simp; try with_reducible rfl)
              simp only [Act.put, lay9]
              refine wpAnyH_ready (rs := [3]) (by kernel_rfl) (by simp) (AllReadyH.cons rfl (fun K hK => ?_) AllReadyH.nil)
              have hT6 : wr.drew.there (N + 1) 0 L2.toArray.size := thereL (heap_keep H5.out.1.r (Below.refl _ _).drew) (by rw [List.size_toArray, hl2]; exact Nat.le_refl 11)
              have hi6 : (Tryz.prog.info? 33).map (·.size) = some L2.toArray.size := by rw [List.size_toArray]; exact hi2'
              have ho6 : ∀ v ∈ L2, v.oneCell' = true := by rw [← HE.out.1]; exact stoL_one _ X2 _
              refine wp_store_mid 33 _ _ rfl (N + 1) 0 L2.toArray rfl rfl hT6 hi6 (all_oneCell_toArray ho6) ?_
              have H6 := Lib.hid (H5.out.1.keep (Below.refl wr.heap.size wr).drew)
              have hdr : wr.drew.heap.size = wr.heap.size := rfl
              have hoS : ∀ g, g ≠ N + 1 → g < wr.heap.size → (World.setCells wr.drew (N + 1) 0 L2).heap[g]? = wr.drew.heap[g]? := fun g hg hs => World.heap_setCells_other wr.drew _ _ _ hs hg
              have ht7 := (hoS N (by omega) (by omega)).trans H6.out.t
              have hc7 : (World.setCells wr.drew (N + 1) 0 L2).cell? ⟨T, 0, none⟩ = some (.string ⟨td.toArray⟩) := (World.cell?_of_block (hoS T (by omega) hTr)).trans t0r
              have hr7 : (World.setCells wr.drew (N + 1) 0 L2).rangeAt (N + 1) 0 L2 := World.rangeAt_setCells_same _ _ _ _ (by simpa using hT6)
              have hst7 : StF N (World.setCells wr.drew (N + 1) 0 L2) S' X2 := (H5.out.2.2.kpt (KpT.below (Below.refl _ _).drew)).kpt (StBx.kpts H6.out.r L2)
              have hb7 : Below N w (World.setCells wr.drew (N + 1) 0 L2) := (H5.out.2.1.trans (Below.refl N wr).drew).trans (Lib.below_setCells_w (by omega) L2 0 wr.drew)
              refine hK.out _ _ ⟨rangeL ht7, hc7⟩ (fun hHeld => ?_)
              clear hK K
              (try simp only [Act.put, lay9])
              refine tk 4 (v := ?_) rfl ?_ hHeld ?_
              rotate_left
              · (intro w' hSw; (try dsimp only at hSw); go_simp; try with_reducible rfl)
              simp only [Act.put, lay9]
              refine tk 5 (v := ?_) rfl ?_ hHeld ?_
              rotate_left
              · (intro w' hSw; (try dsimp only at hSw); go_simp; try with_reducible rfl)
              simp only [Act.put, lay9]
              refine wpAnyH_done (by kernel_rfl) ?_ _
              clear hHeld
              go_wp2_with fail
              refine bodyPost_ret (v := .tuple #[.agg L2.toArray, .string ⟨td.toArray⟩, .int .i64 0]) (results_stt (B := N + 1) rfl rfl rfl rfl hr7 hi2') rfl ?_
              refine ⟨_, rfl, ?_, by rw [hN]; exact hb7⟩
              rw [HFs.out, hN]
              exact ⟨X2, by rw [HE.out.1]; rfl, hst7⟩
            · have h3b : decide ((3 : Int) ≤ (c : Int)) = false := by simp; omega
              have HN := Lib.hid (show voteF (tolFrom t (k + 1)) ((List.range 5).map t) = F by have h := HST.out; rw [if_neg (fun e => h3c (by rw [HCA.out]; exact e.2))] at h; exact h)
              have HB := Lib.hid hbq
              clear h3 hbq
              go_wp2_with fail
              go_roundw
              case rel => exact ⟨k + 1, by omega, ret_i (by omega), HN, HB⟩
              case measure => simp only [intOf]; omega
      · have h01 : ((te : Int) != 0) = true := by simp; omega
        have HN := Lib.hid (show voteF (tolFrom t (k + 1)) ((List.range 5).map t) = F by have h := HST.out; rw [if_neg (fun e => h0 e.1)] at h; exact h)
        clear h0
        go_wp2_with fail
        go_roundw
        case rel => exact ⟨k + 1, by omega, ret_i (by omega), HN, H1⟩
        case measure => simp only [intOf]; omega
    · obtain rfl : k = 5 := by omega
      have hFn : F = none := by have h := HF.out; rw [tolFrom_end] at h; exact h.symm
      have HFn := Lib.hid hFn
      clear hFn
      have h5 : RdM N Tq S' X2 L2 LT wr := HC.out.2.keep (by rw [hQ]; exact HW.out)
      have hbw5 : Below N w wr := HC.out.1.1.trans (HW.out.mono hsw3)
      have hst5 : StF N wr S' X2 := HC.out.1.2.kpt (KpT.below (by rw [hQ]; exact HW.out))
      have hl2 := HE.out.2.2
      have hi2' := HI.out.2
      have hit' := HI.out.1
      have H5 := Lib.hid (And.intro h5 (And.intro hbw5 hst5))
      clear h5 hbw5 hst5
      go_upto_region 18 with (fail)
      have hwhy := swhy_any t wr.drew
      rw [HE.out.2.1, HR9.out] at hwhy
      have HY := Lib.hid hwhy
      clear hwhy
      refine wp_region_held_drew (S := (fun w' => w'.rangeAt N 0 L2 ∧ w'.rangeAt Tq 0 LT)) (by kernel_rfl) (by exact ⟨rangeL H5.out.1.t, rangeL H5.out.1.q⟩) (fun hHeld => ?_)
      refine wpAnyH_take (i := 0) (v := .agg (L2).toArray) rfl (by kernel_rfl) (by kernel_rfl) (by kernel_rfl) (fun _ _ _ h => h) (yieldsIf_load_mid (by kernel_rfl) 33 _ rfl (N) (0) rfl L2 _ (fun _ h => h.1) Tryz.underlying33 rfl hi2') hHeld ?_
      simp only [Act.put, lay9]
      refine wpAnyH_take (i := 1) (v := .agg (LT).toArray) rfl (by kernel_rfl) (by kernel_rfl) (by kernel_rfl) (fun _ _ _ h => h) (yieldsIf_load_mid (by kernel_rfl) 78 _ rfl (Tq) (0) rfl LT _ (fun _ h => h.2) Tryz.underlying78 rfl hit') hHeld ?_
      simp only [Act.put, lay9]
      refine wpAnyH_ready (rs := [2]) (by kernel_rfl) (by simp) (AllReadyH.cons rfl (fun K hK => ?_) AllReadyH.nil)
      go_simp
      (with_reducible refine HY.out.mono ?_)
      rintro _ W6 ⟨v, rfl, rfl, hb6⟩
      have hb56 : Below wr.heap.size wr W6 := (Below.refl _ _).drew.trans hb6
      have h6 := H5.out.1.keep hb56
      have H6 := Lib.hid (And.intro h6 (And.intro (H5.out.2.1.trans (hb56.mono (by have := H5.out.2.1.size; omega))) (H5.out.2.2.kpt (KpT.below hb56))))
      refine hK.out _ _ ⟨rangeL h6.t, rangeL h6.q⟩ (fun hHeld => ?_)
      clear hK K
      (try simp only [Act.put, lay9])
      clear h6 hb56 hb6
      refine wpAnyH_ready (rs := [3]) (by kernel_rfl) (by simp) (AllReadyH.cons rfl (fun K hK => ?_) AllReadyH.nil)
      have hT6 : W6.there (N + 1) 0 L2.toArray.size := thereL H6.out.1.r (by rw [List.size_toArray, hl2]; exact Nat.le_refl 11)
      have hi6 : (Tryz.prog.info? 33).map (·.size) = some L2.toArray.size := by rw [List.size_toArray]; exact hi2'
      have ho6 : ∀ v ∈ L2, v.oneCell' = true := by rw [← HE.out.1]; exact stoL_one _ X2 _
      refine wp_store_mid 33 _ _ rfl (N + 1) 0 L2.toArray rfl rfl hT6 hi6 (all_oneCell_toArray ho6) ?_
      have hbs := blk_lt H6.out.1.q
      have hoS : ∀ g, g ≠ N + 1 → g < W6.heap.size → (World.setCells W6 (N + 1) 0 L2).heap[g]? = W6.heap[g]? := fun g hg hs => World.heap_setCells_other W6 _ _ _ hs hg
      have ht7 := (hoS N (by omega) (by omega)).trans H6.out.1.t
      have hq7 := (hoS Tq (by omega) (by omega)).trans H6.out.1.q
      have hr7 : (World.setCells W6 (N + 1) 0 L2).rangeAt (N + 1) 0 L2 := World.rangeAt_setCells_same _ _ _ _ (by simpa using hT6)
      have hst7 : StF N (World.setCells W6 (N + 1) 0 L2) S' X2 := H6.out.2.2.kpt (StBx.kpts H6.out.1.r L2)
      have hb7 : Below N w (World.setCells W6 (N + 1) 0 L2) := H6.out.2.1.trans (Lib.below_setCells_w (by omega) L2 0 W6)
      refine hK.out _ _ ⟨rangeL ht7, rangeL hq7⟩ (fun hHeld => ?_)
      clear hK K
      (try simp only [Act.put, lay9])
      refine tk 4 (v := ?_) rfl ?_ hHeld ?_
      rotate_left
      · (intro w' hSw; (try dsimp only at hSw); go_simp; try with_reducible rfl)
      simp only [Act.put, lay9]
      refine tk 5 (v := ?_) rfl ?_ hHeld ?_
      rotate_left
      · (intro w' hSw; (try dsimp only at hSw); go_simp; try with_reducible rfl)
      simp only [Act.put, lay9]
      refine wpAnyH_done (by kernel_rfl) ?_ _
      clear hHeld
      go_wp2_with fail
      refine bodyPost_ret (v := .tuple #[.agg L2.toArray, .string ⟨#[]⟩, .int .i64 (e9 : Int)]) (results_stt (B := N + 1) rfl rfl rfl rfl hr7 hi2') rfl ?_
      refine ⟨_, rfl, ?_, by rw [hN]; exact hb7⟩
      rw [HFn.out, hN]
      exact ⟨X2, by rw [HE.out.1]; rfl, hst7⟩
end Go.Proofs.YtdnebgilkfafhaaGreatDoor
