/- The walk of policy.Keep at a policy that may be. -/
import Derived.Test.YtmncgnmgdkdhaaaGreatDoorPolW7
import Derived.Laws.EntriesVeiled
namespace Go.Proofs.YtmncgnmgdkdhaaaGreatDoor
open Go.RowKit
set_option linter.unusedVariables false
set_option linter.unusedSimpArgs false
set_option maxRecDepth 100000 in
set_option maxHeartbeats 4000000 in
theorem keep_good (p : Pl.Pol) (A : Option Addr) (n c : Nat) (l : List Pl.Rf) (now : Int) (w : World) (hl : l.length = n) (hn : n ≤ 1000000) (hr : Rd w 5 A n (rfCs l)) (hfit : ∀ x ∈ l, -9223372036854775808 ≤ x.t ∧ x.t ≤ 9223372036854775807) (hE : Pl.polE p = 0) :
    Calls Tryz.prog 17 #[polV p, .slice A n c, .int .i64 now] w (RetB (KeepOut w.heap.size n (Pl.keepD p l now)) w) := by
  have hmk := fun W => make_zeros (P := Tryz.prog) 36 4 (.bool false) 1 Tryz.underlying36 info_bool1 rfl n (by omega) (by omega) W
  have hmi := fun W => make_zeros (P := Tryz.prog) 49 3 (.int .i64 0) 8 Tryz.underlying49 info_int1 rfl n (by omega) (by omega) W
  have hchk := pcheck_any p
  have hnum := numbers_any p
  rw [nums_val] at hnum
  rw [hE] at hchk
  obtain ⟨KD, hKD⟩ : ∃ K, K = Pl.keepD p l now := ⟨_, rfl⟩
  rw [← hKD]
  rw [bools_repl] at hmk
  obtain ⟨Z, hZ⟩ : ∃ Z : Array Value, Z = (List.replicate n (Value.int .i64 0)).toArray := ⟨_, rfl⟩
  rw [← hZ] at hmi
  have HZ := Lib.hid hZ; clear hZ
  have hpc : polV p = .agg #[.int .i64 p.d, .int .i64 p.w, .int .i64 p.mo, .int .i64 p.y] := rfl
  obtain ⟨pd, hpd⟩ : ∃ x, x = p.d := ⟨_, rfl⟩
  obtain ⟨pw, hpw⟩ : ∃ x, x = p.w := ⟨_, rfl⟩
  obtain ⟨pm, hpm⟩ : ∃ x, x = p.mo := ⟨_, rfl⟩
  obtain ⟨py, hpy⟩ : ∃ x, x = p.y := ⟨_, rfl⟩
  have hpc2 := hpc
  rw [hpc, ← hpd, ← hpw, ← hpm, ← hpy] at hpc2
  rw [hpc, ← hpd, ← hpw, ← hpm, ← hpy] at hchk hnum ⊢
  obtain ⟨N, hN⟩ : ∃ N, N = p.nums := ⟨_, rfl⟩
  rw [← hN] at hnum
  have HH := Lib.hid (And.intro hchk (And.intro hnum (And.intro hKD (And.intro hl (And.intro hE (And.intro hr (And.intro hfit (And.intro (And.intro hpd (And.intro hpw (And.intro hpm hpy))) hN))))))))
  clear hchk hnum hKD hl hE hpc hpc2 hpd hpw hpm hpy hr hfit hN
  go_enter Tryz.func17, Tryz.ntmps17
  go_wp2_with fail
  refine (HH.out.1 _).mono ?_
  rintro e w1 ⟨v, rfl, rfl, hb1⟩
  have hbw := (((Below.refl w.heap.size w).alloc (Nat.le_refl _) (.cells #[.int .i64 pd, .int .i64 pw, .int .i64 pm, .int .i64 py] 23)).alloc (by simp) (.cells (bools (List.replicate n false)).toArray 4)).trans (hb1.mono (by simp; omega))
  have hk : w1.heap[w.heap.size + 1]? = some (.cells (bools (List.replicate n false)).toArray 4 (0, 0)) := (hb1.block _ (by simp)).trans (heap_alloc_2 w _ _)
  have hp0 : w1.heap[w.heap.size]? = some (.cells #[.int .i64 pd, .int .i64 pw, .int .i64 pm, .int .i64 py] 23 (0, 0)) := (hb1.block _ (by simp; omega)).trans ((Below.heap_alloc _ _ _ (by simp)).trans (heap_alloc_new w _))
  have hsz1 : w.heap.size + 1 < w1.heap.size := blk_lt hk
  clear hb1
  obtain ⟨ob, hob⟩ : ∃ ob, ob = w1.heap.size := ⟨_, rfl⟩
  have HK := Lib.hid (And.intro hk (And.intro hp0 hob)); clear hk hp0
  go_wp2_with fail
  rw [← hob]
  obtain ⟨w2, hw2⟩ : ∃ w2, w2 = w1.alloc (.cells Z 3) := ⟨_, rfl⟩
  rw [← hw2]
  have hi2 : w2.heap[ob]? = some (.cells (List.replicate n (Value.int .i64 0)).toArray 3 (0, 0)) := by rw [hw2, hob, ← HZ.out]; exact heap_alloc_new w1 _
  have hb12 : Below w1.heap.size w1 w2 := by rw [hw2]; exact (Below.refl _ _).alloc (Nat.le_refl _) _
  have hob1 : ob < w2.heap.size := blk_lt hi2
  have hsz2 : w.heap.size + 1 < ob := by omega
  have H2 := Lib.hid (And.intro hi2 hb12); clear hi2 hb12 hw2 hob
  go_loopw [39] (IotaR n ob ob w2) (fun i _ => n - (intOf i).toNat)
  case atStart => exact ⟨0, by omega, rfl, by simpa using H2.out.1, Below.refl _ _⟩
  case round =>
    obtain ⟨j, hj, rfl, hk, hbr⟩ := hrel
    by_cases hjn : j < n
    · have hc := cell_row wr ob j _ _ hk
      rw [iota_get n j hjn] at hc
      have hf := frozen_of wr ob j _ _ hk
      have j0 : (0 : Int) ≤ (j : Int) := by omega
      have j1 : (j : Int) < (n : Int) := by omega
      have HK2 := Lib.hid hk; clear hk
      go_wp2_with fail
      refine ⟨⟨j + 1, by omega, rfl, ?_, hbr.setCell (Nat.le_refl _) _⟩, by simp [intOf]; omega⟩
      rw [set_at _ _ _ _ _ _ HK2.out, iota_set n j hjn]
    · obtain rfl : n = j := by omega
      clear hmk hmi hj hjn
      have hbwr : Below w.heap.size w wr := (hbw.trans (H2.out.2.mono (by omega))).trans (hbr.mono (by omega))
      have HK2 := Lib.hid (And.intro hk hbwr); clear hk hbw
      go_wp2_with fail
      refine (laterF_any A n c _).mono ?_
      rintro e w3 ⟨rfl, rfl⟩
      go_wp2_with fail
      have hszr : w2.heap.size ≤ wr.heap.size := hbr.size
      obtain ⟨w3, hw3⟩ : ∃ w3, w3 = wr.alloc (.cells #[.slice A n c] 32) := ⟨_, rfl⟩
      rw [← hw3]
      have hb3 : Below wr.heap.size wr w3 := by rw [hw3]; exact (Below.refl _ _).alloc (Nat.le_refl _) _
      have hh3 : w3.cell? ⟨wr.heap.size, 0, none⟩ = some (.slice A n c) := by rw [hw3]; exact cell_row _ _ 0 _ _ (heap_alloc_new wr _)
      have hi3 : w3.heap[ob]? = _ := (hb3.block ob (by omega)).trans HK2.out.1
      have hr3 : Rd w3 5 A n (rfCs l) := (HH.out.2.2.2.2.2.1.below HK2.out.2).below hb3
      have hA3 : 0 < n → ∀ b off, A = some ⟨b, off, none⟩ → b ≠ ob := by
        intro h0 b off hAe
        obtain ⟨b', off', e, h, _⟩ := HH.out.2.2.2.2.2.1.2 h0
        rw [hAe] at e
        injection e with e
        injection e with e1 e2
        omega
      have ho3 : ∀ q, q < n → w3.cell? ⟨ob, q, none⟩ = some (.int .i64 (q : Int)) ∧ w3.frozen? ⟨ob, q, none⟩ = false := by
        intro q hq
        refine ⟨?_, frozen_of w3 ob q _ _ hi3⟩
        rw [cell_row w3 ob q _ _ hi3]
        simp [hq]
      refine (sort_all l n HH.out.2.2.2.1 hn wr.heap.size ob c n A w3 hh3 hr3 (by omega) hA3 ho3 (blk_lt hi3)).mono ?_
      rintro e w4 ⟨rfl, o, hO, hg4, ho4⟩
      have HS := Lib.hid (And.intro hO (And.intro hg4 (And.intro ho4 (And.intro hb3 hi3)))); clear hO hg4 ho4 hb3 hi3 hh3 hr3 hA3 ho3 hw3
      go_upto_region 17 with (fail)
      obtain ⟨w5, hw5⟩ : ∃ w5, w5 = w4.alloc (.cells #[.func (.func 31) #[] #[], .func (.func 32) #[] #[], .func (.func 33) #[] #[], .func (.func 34) #[] #[]] 69) := ⟨_, rfl⟩
      rw [← hw5]
      obtain ⟨pb, hpb⟩ : ∃ pb, pb = w4.heap.size := ⟨_, rfl⟩
      rw [← hpb]
      have hKS : KS p l n o w ob pb (List.replicate n false) w5 := by
        obtain ⟨hO, hg4, ho4, hb3, hi3⟩ := HS.out
        have hob3 := blk_lt hi3
        have hb5 : Below w4.heap.size w4 w5 := by rw [hw5]; exact (Below.refl _ _).alloc (Nat.le_refl _) _
        have hp5 : w5.heap[pb]? = some (.cells #[.func (.func 31) #[] #[], .func (.func 32) #[] #[], .func (.func 33) #[] #[], .func (.func 34) #[] #[]] 69 (0, 0)) := by rw [hw5, hpb]; exact heap_alloc_new w4 _
        have t : ∀ q, q < w1.heap.size → w5.heap[q]? = w1.heap[q]? := by
          intro q hq
          have e1 : w.heap.size + 1 < w1.heap.size := hsz1
          have e2 := HK.out.2.2
          rw [hb5.block q (by have := hg4.size; have := hb3.size; omega), hg4.block q (by have := hb3.size; omega) (by simp; omega), hb3.block q (by omega), hbr.block q (by omega), H2.out.2.block q (by omega)]
        refine ⟨?_, ?_, by simp, ?_, ?_, ?_, hsz2, ?_, ?_, blk_lt hp5⟩
        · rw [t _ (by omega), HK.out.2.1]
          obtain ⟨⟨e1, e2, e3, e4⟩, -⟩ := HH.out.2.2.2.2.2.2.2
          rw [e1, e2, e3, e4]
        · rw [t _ hsz1, HK.out.1]
        · intro q hq
          exact (hb5.cell (p := ⟨ob, q, none⟩) (Nat.lt_of_lt_of_le hob3 hg4.size)).trans (ho4 q hq)
        · intro k hk
          refine (cell_row w5 pb k _ _ hp5).trans ?_
          match k, hk with
          | 0, _ => rfl
          | 1, _ => rfl
          | 2, _ => rfl
          | 3, _ => rfl
        · have b3 : Below w.heap.size w w3 := hbwr.trans (hb3.mono hbwr.size)
          have b4 : Below w.heap.size w w4 := b3.trans ⟨hg4.os, hg4.tape, hg4.output, hg4.size, fun k hk => hg4.block k (Nat.lt_of_lt_of_le hk b3.size) (by simp; omega)⟩
          exact b4.trans (hb5.mono b4.size)
        · have := hg4.size; have := hb5.size; omega
        · have := hg4.size; omega
      have hO := HS.out.1
      have HO := Lib.hid hO
      clear HS hw5 hpb HK2 hbr hbwr H2 HK hO
      have hob1' := hKS.ob0
      go_wp2_with fail
      go_loopw [12] (GrpP p l n o w ob pb) (fun i _ => n - (intOf i).toNat)
      case atStart => exact ⟨0, _, rfl, hKS, by omega, fun i hi => by simp [List.getElem?_replicate]; split <;> rfl, .inl rfl⟩
      case round =>
        clear hKS
        obtain ⟨a, K, rfl, hG⟩ := hrel
        by_cases han : a < n
        · obtain ⟨b, off, rfl, hb0, -⟩ := HH.out.2.2.2.2.2.1.2 (by omega)
          have hS := hG.st
          have HG := Lib.hid hG; clear hG
          have a0 : (0 : Int) ≤ (a : Int) := by omega
          have a1 : (a : Int) < (n : Int) := by omega
          go_wp2_with fail
          obtain ⟨wo, hwo⟩ : ∃ wo : World, wo = wr := ⟨_, rfl⟩
          rw [← hwo]
          rw [← hwo] at hS HG
          clear hwo
          go_loopw [13] (ToP p l n o w ob pb a K) (fun i _ => n - (intOf i).toNat)
          case atStart => exact ⟨a + 1, rfl, by omega, by omega, fun q h1 h2 => by rw [show q = a by omega], hS⟩
          case round =>
            clear hS
            obtain ⟨t, rfl, hat, htn, hone, hS⟩ := hrel
            have hoa := hS.ord a han
            have hlen := HO.out.len
            have hl := HH.out.2.2.2.1
            have hia : o.getD a 0 < n := by rw [← hl]; exact HO.out.lt _ (by rw [Pl.getD_at o a (by omega)]; exact List.getElem_mem _)
            obtain ⟨ia, hiae⟩ : ∃ i, i = o.getD a 0 := ⟨_, rfl⟩
            rw [← hiae] at hoa hia
            obtain ⟨b', off', e', hbw, hrf⟩ := (HH.out.2.2.2.2.2.1.below hS.bel).rf hl hia
            injection e' with e'
            injection e' with e1 e2
            subst e1 e2
            obtain ⟨ya, hya⟩ : ∃ y, l.getD ia default = y := ⟨_, rfl⟩
            obtain ⟨m0, -, -, -, -⟩ := hrf ya hya
            have hma : Pl.mach l o a = ya.m := by unfold Pl.mach; rw [← hiae, hya]
            obtain ⟨ma, hmae⟩ : ∃ m, m = ya.m := ⟨_, rfl⟩
            rw [← hmae] at m0 hma
            have ia0 : (0 : Int) ≤ (ia : Int) := by omega
            have ia1 : (ia : Int) < (n : Int) := by omega
            have t0 : (0 : Int) ≤ (t : Int) := by omega
            clear hrf
            have hnt : t < n → ∃ it mt, wr.cell? ⟨ob, t, none⟩ = some (.int .i64 ((it : Nat) : Int)) ∧ it < n ∧ wr.cell? ⟨b, off + it * 5, none⟩ = some (.string ⟨mt.toArray⟩) ∧ Pl.mach l o t = mt := by
              intro htn'
              have hot := hS.ord t htn'
              have hit : o.getD t 0 < n := by rw [← hl]; exact HO.out.lt _ (by rw [Pl.getD_at o t (by omega)]; exact List.getElem_mem _)
              obtain ⟨b', off', e', -, hrf⟩ := (HH.out.2.2.2.2.2.1.below hS.bel).rf hl hit
              injection e' with e'
              injection e' with e1 e2
              subst e1 e2
              exact ⟨_, _, hot, hit, (hrf _ rfl).1, rfl⟩
            by_cases hgo : t < n ∧ Pl.mach l o t = ma
            · obtain ⟨htn', hmt⟩ := hgo
              obtain ⟨it, mt, hot, hit, n0, hmt2⟩ := hnt htn'
              have hmm : mt = ma := by rw [← hmt2]; exact hmt
              subst hmm
              clear hnt
              have it0 : (0 : Int) ≤ (it : Int) := by omega
              have it1 : (it : Int) < (n : Int) := by omega
              have t1 : (t : Int) < (n : Int) := by omega
              have htd : decide ((t : Int) < (n : Int)) = true := decide_eq_true t1
              have HT := Lib.hid (And.intro hS (And.intro hone (And.intro hma (And.intro hmt2 hmae)))); clear hS hone hma hmt hmt2 hlen hl hiae hya hmae
              go_wp2_with fail
              go_quiet (fail)
              go_wp2_with fail
              refine ⟨⟨t + 1, rfl, by omega, by omega, ?_, HT.out.1.below (below_drewN (Below.refl _ _) _)⟩, by simp [intOf]; omega⟩
              intro q h1 h2
              by_cases hqt : q = t
              · rw [hqt, HT.out.2.2.2.1, HT.out.2.2.1]
              · exact HT.out.2.1 q h1 (by omega)
            · have hstop : t = n ∨ Pl.mach l o t ≠ Pl.mach l o a := by
                by_cases h : t = n
                · exact .inl h
                · exact .inr fun e => hgo ⟨by omega, by rw [e, hma]⟩
              by_cases htn' : t < n
              focus
                obtain ⟨it, mt, hot, hit, n0, hmt2⟩ := hnt htn'
                have hmm : (mt == ma) = false := by rw [beq_eq_false_iff_ne]; intro e; exact hgo ⟨htn', by rw [hmt2, e]⟩
                clear hnt hgo
                have it0 : (0 : Int) ≤ (it : Int) := by omega
                have it1 : (it : Int) < (n : Int) := by omega
                have t1 : (t : Int) < (n : Int) := by omega
                have htd : decide ((t : Int) < (n : Int)) = true := decide_eq_true t1
                have HT := Lib.hid (And.intro hS (And.intro hone hstop)); clear hS hone hma hmt2 hlen hl hiae hya hmae hstop
                go_wp2_with fail
                go_quiet (fail)
              rotate_left
              focus
                have htd : decide ((t : Int) < (n : Int)) = false := decide_eq_false (by omega)
                clear hnt hgo
                have HT := Lib.hid (And.intro hS (And.intro hone hstop)); clear hS hone hma hlen hl hiae hya hmae hstop
                go_wp2_with fail
                go_quiet (fail)
              all_goals
                have hS := HT.out.1.below (below_drewN (Below.refl _ wr) nq)
                generalize wr.drewN nq = wq at hS ⊢
                clear hoa m0 htd
                obtain ⟨⟨e1, e2, e3, e4⟩, eN⟩ := HH.out.2.2.2.2.2.2.2
                have hpl := hS.pol
                rw [← e1, ← e2, ← e3, ← e4] at hpl
                have q0 : wq.cell? ⟨w.heap.size, 0, none⟩ = some (.int .i64 pd) := cell_row wq _ 0 _ _ hpl
                have q1 : wq.cell? ⟨w.heap.size, 1, none⟩ = some (.int .i64 pw) := cell_row wq _ 1 _ _ hpl
                have q2 : wq.cell? ⟨w.heap.size, 2, none⟩ = some (.int .i64 pm) := cell_row wq _ 2 _ _ hpl
                have q3 : wq.cell? ⟨w.heap.size, 3, none⟩ = some (.int .i64 py) := cell_row wq _ 3 _ _ hpl
                clear e1 e2 e3 e4 hpl eN
                go_wp2_with fail
                refine (HH.out.2.1 _).mono ?_
                rintro e wn ⟨v, rfl, rfl, hbn⟩
                have hSn := hS.below hbn
                clear hS hbn q0 q1 q2 q3
                go_wp2_with fail
                go_loopw [85] (KindP p l n o w ob pb (Pl.grp o a t) K) (fun i _ => 4 - (intOf i).toNat)
                case atStart => exact ⟨0, rfl, by omega, hSn⟩
                case round =>
                  clear hSn
                  obtain ⟨k, rfl, hk4, hS⟩ := hrel
                  by_cases hk : k < 4
                  · have hN4 : N.length = 4 := by rw [HH.out.2.2.2.2.2.2.2.2]; rfl
                    have hxn := fun w => index_ints4 N k hN4 hk w
                    have hpk : N.getD k 0 = p.num k := by rw [HH.out.2.2.2.2.2.2.2.2]; exact nums_num p k hk
                    obtain ⟨x, hxx⟩ : ∃ x, x = p.num k := ⟨_, rfl⟩
                    rw [hpk, ← hxx] at hxn
                    clear hpk hN4
                    have hpf := hS.per k hk
                    have k0 : (0 : Int) ≤ (k : Int) := by omega
                    have k1 : (k : Int) < 4 := by omega
                    have HX := Lib.hid (And.intro hS hxx); clear hS hxx
                    go_wp2_with fail
                    have hna : ¬ n = a := by omega
                    have at0 : (a : Int) ≤ (t : Int) := by omega
                    have tn0 : (t : Int) ≤ (n : Int) := by omega
                    refine wp_region_held_drew (S := (fun w' => w'.cell? ⟨pb, k, none⟩ = some (.func (.func (perFn k)) #[] #[]))) (by kernel_rfl) hpf (fun hHeld => ?_)
                    refine wpAnyH_take (i := 0) (v := ?_) rfl (by kernel_rfl) (by kernel_rfl) (by kernel_rfl) (fun _ _ _ h => h) (Or.inl ⟨by kernel_rfl, ?_⟩) hHeld ?_
                    rotate_left
                    · (intro w' hSw; (try dsimp only at hSw); go_simp; try with_reducible rfl)
                    simp only [Act.put, List.setIfInBounds_toArray, List.set_cons_zero, List.set_cons_succ, List.getElem_toArray, List.getElem_cons_succ, List.getElem_cons_zero]
                    refine wpAnyH_take (i := 1) (v := ?_) rfl (by kernel_rfl) (by kernel_rfl) (by kernel_rfl) (fun _ _ _ h => h) (Or.inl ⟨by kernel_rfl, ?_⟩) hHeld ?_
                    rotate_left
                    · (intro w' hSw; (try dsimp only at hSw); go_simp; try with_reducible rfl)
                    simp only [Act.put, List.setIfInBounds_toArray, List.set_cons_zero, List.set_cons_succ, List.getElem_toArray, List.getElem_cons_succ, List.getElem_cons_zero]
                    refine wpAnyH_take (i := 2) (v := ?_) rfl (by kernel_rfl) (by kernel_rfl) (by kernel_rfl) (fun _ _ _ h => h) (Or.inl ⟨by kernel_rfl, ?_⟩) hHeld ?_
                    rotate_left
                    · (intro w' hSw; (try dsimp only at hSw); go_simp; try with_reducible rfl)
                    simp only [Act.put, List.setIfInBounds_toArray, List.set_cons_zero, List.set_cons_succ, List.getElem_toArray, List.getElem_cons_succ, List.getElem_cons_zero]
                    refine wpAnyH_take (i := 3) (v := ?_) rfl (by kernel_rfl) (by kernel_rfl) (by kernel_rfl) (fun _ _ _ h => h) (Or.inl ⟨by kernel_rfl, ?_⟩) hHeld ?_
                    rotate_left
                    · (intro w' hSw; (try dsimp only at hSw); go_simp; try with_reducible rfl)
                    simp only [Act.put, List.setIfInBounds_toArray, List.set_cons_zero, List.set_cons_succ, List.getElem_toArray, List.getElem_cons_succ, List.getElem_cons_zero]
                    refine wpAnyH_take (i := 4) (v := ?_) rfl (by kernel_rfl) (by kernel_rfl) (by kernel_rfl) (fun _ _ _ h => h) (Or.inl ⟨by kernel_rfl, ?_⟩) hHeld ?_
                    rotate_left
                    · (intro w' hSw; (try dsimp only at hSw); go_simp; try with_reducible rfl)
                    simp only [Act.put, List.setIfInBounds_toArray, List.set_cons_zero, List.set_cons_succ, List.getElem_toArray, List.getElem_cons_succ, List.getElem_cons_zero]
                    refine wpAnyH_take (i := 5) (v := ?_) rfl (by kernel_rfl) (by kernel_rfl) (by kernel_rfl) (fun _ _ _ h => h) (Or.inl ⟨by kernel_rfl, ?_⟩) hHeld ?_
                    rotate_left
                    · (intro w' hSw; (try dsimp only at hSw); go_simp; try with_reducible rfl)
                    simp only [Act.put, List.setIfInBounds_toArray, List.set_cons_zero, List.set_cons_succ, List.getElem_toArray, List.getElem_cons_succ, List.getElem_cons_zero]
                    refine wpAnyH_take (i := 6) (v := ?_) rfl (by kernel_rfl) (by kernel_rfl) (by kernel_rfl) (fun _ _ _ h => h) (Or.inl ⟨by kernel_rfl, ?_⟩) hHeld ?_
                    rotate_left
                    · (intro w' hSw; (try dsimp only at hSw); go_simp; try with_reducible rfl)
                    simp only [Act.put, List.setIfInBounds_toArray, List.set_cons_zero, List.set_cons_succ, List.getElem_toArray, List.getElem_cons_succ, List.getElem_cons_zero]
                    refine wpAnyH_take (i := 7) (v := ?_) rfl (by kernel_rfl) (by kernel_rfl) (by kernel_rfl) (fun _ _ _ h => h) (Or.inl ⟨by kernel_rfl, ?_⟩) hHeld ?_
                    rotate_left
                    · (intro w' hSw; (try dsimp only at hSw); go_simp; try with_reducible rfl)
                    simp only [Act.put, List.setIfInBounds_toArray, List.set_cons_zero, List.set_cons_succ, List.getElem_toArray, List.getElem_cons_succ, List.getElem_cons_zero]
                    refine wpAnyH_take (i := 8) (v := ?_) rfl (by kernel_rfl) (by kernel_rfl) (by kernel_rfl) (fun _ _ _ h => h) (Or.inl ⟨by kernel_rfl, ?_⟩) hHeld ?_
                    rotate_left
                    · (intro w' hSw; (try dsimp only at hSw); go_simp; try with_reducible rfl)
                    simp only [Act.put, List.setIfInBounds_toArray, List.set_cons_zero, List.set_cons_succ, List.getElem_toArray, List.getElem_cons_succ, List.getElem_cons_zero]
                    refine wpAnyH_take (i := 9) (v := ?_) rfl (by kernel_rfl) (by kernel_rfl) (by kernel_rfl) (fun _ _ _ h => h) (Or.inl ⟨by kernel_rfl, ?_⟩) hHeld ?_
                    rotate_left
                    · (intro w' hSw; (try dsimp only at hSw); go_simp; try with_reducible rfl)
                    simp only [Act.put, List.setIfInBounds_toArray, List.set_cons_zero, List.set_cons_succ, List.getElem_toArray, List.getElem_cons_succ, List.getElem_cons_zero]
                    refine wpAnyH_ready (rs := [10]) (by kernel_rfl) (by simp) (AllReadyH.cons rfl (fun K hK => ?_) AllReadyH.nil)
                    go_simp
                    have hS := HX.out.1.below ((Below.refl _ wr).drew)
                    have hol := HO.out.len
                    have hln := HH.out.2.2.2.1
                    have hgl := grp_len o a t (by omega)
                    have hbS := hS.bel.size
                    have hob0 := hS.ob0
                    have hm := mark_any k (perFn k) (per_enters k) (fun a w h0 h1 => per_call k a w h0 h1) n (w.heap.size + 1) n b off c ob a (n - a) l (Pl.grp o a t) x _ wr.drew hln hn HH.out.2.2.2.2.2.2.1 (HH.out.2.2.2.2.2.1.below hS.bel) (by omega) (blk_lt hS.kept) (by omega) hS.obw (fun q hq => by rw [grp_getD o a t q (by omega)]; exact hS.ord (a + q) (by omega)) (grp_lt (by rw [← hln]; exact HO.out.lt)) (by omega) hS.kept hS.len
                    rw [hgl] at hm
                    refine hm.mono ?_
                    rintro e w6 ⟨rfl, hg6, hk6⟩
                    have hS6 : KS p l n o w ob pb (marksN p l (Pl.grp o a t) _ (k + 1)) w6 := hS.mark hg6 (by rw [hk6, HX.out.2]; rfl) (by rw [marksN_len, ← marksN_len p l (Pl.grp o a t) _ k]; exact hS.len)
                    clear hm hS hg6 hk6 hol hln hgl hbS hob0
                    refine hK.out _ _ (hS6.per k hk) (fun hHeld => ?_)
                    clear hK K
                    (try simp only [Act.put, List.setIfInBounds_toArray, List.set_cons_zero, List.set_cons_succ, List.getElem_toArray, List.getElem_cons_succ, List.getElem_cons_zero])
                    refine wpAnyH_done (by kernel_rfl) ?_ _
                    have HS6 := Lib.hid hS6; clear hS6
                    go_wp2_with fail
                    exact ⟨⟨k + 1, rfl, by omega, HS6.out⟩, by simp [intOf]; omega⟩
                  · obtain rfl : k = 4 := by omega
                    have HS4 := Lib.hid hS; clear hS
                    go_wp2_with fail
                    refine ⟨⟨_, _, rfl, HG.out.next HO.out HH.out.2.2.2.1 hat htn HT.out.2.1 HT.out.2.2 HS4.out⟩, by simp [intOf]; omega⟩
        · obtain rfl : n = a := by have := hG.le; omega
          have hk := hG.all HO.out HH.out.2.2.2.1
          have hS := hG.st
          have HG := Lib.hid (And.intro hk hS); clear hk hS hG
          go_wp2_with fail
          go_loopw [104] (HeldP p l n o w ob pb now) (fun i _ => n - (intOf i).toNat)
          case atStart => exact ⟨0, K, rfl, by omega, HG.out.2, fun i hi => by rw [HG.out.1 i hi]; simp⟩
          case round =>
            obtain ⟨j, K2, rfl, hj, hS, hv⟩ := hrel
            clear HG
            by_cases hjn : j < n
            · obtain ⟨b, off, rfl, hbw, hrf⟩ := (HH.out.2.2.2.2.2.1.below hS.bel).rf HH.out.2.2.2.1 hjn
              obtain ⟨y, hy⟩ : ∃ y, l.getD j default = y := ⟨_, rfl⟩
              obtain ⟨c0, c1, c2, c3, c4⟩ := hrf y hy
              have hnx := held_next (now := now) hjn hS.len hv
              rw [hy] at hnx
              obtain ⟨ym, yn, yt, ynm, ytil⟩ := y
              simp only at c0 c1 c2 c3 c4 hnx
              have j0 : (0 : Int) ≤ (j : Int) := by omega
              have j1 : (j : Int) < (n : Int) := by omega
              have hk := cell_row wr (w.heap.size + 1) j _ _ hS.kept
              rw [bools_get _ _ (by rw [hS.len]; exact hjn)] at hk
              have hfk := frozen_of wr (w.heap.size + 1) j _ _ hS.kept
              have hkl := blk_lt hS.kept
              have HS := Lib.hid (And.intro hS (And.intro hv (And.intro hy hnx))); clear hS hv hy hnx hrf
              by_cases hu : now < ytil
              · have hd : decide (now < ytil) = true := decide_eq_true hu
                go_wp2_with fail
                exact ⟨⟨j + 1, K2.set j true, rfl, by omega, (HS.out.1.set j true).below ((Below.refl _ _).alloc (Nat.le_refl _) _), HS.out.2.2.2.1 hu⟩, by simp [intOf]; omega⟩
              · have hd : decide (now < ytil) = false := decide_eq_false hu
                go_wp2_with fail
                refine ⟨⟨j + 1, K2, rfl, by omega, HS.out.1.below ((Below.refl _ _).alloc (Nat.le_refl _) _), HS.out.2.2.2.2 (by omega)⟩, by simp [intOf]; omega⟩
            · obtain rfl : n = j := by omega
              have HS := Lib.hid (And.intro hS hv); clear hS hv
              go_wp2_with fail
              go_ret
              refine ⟨_, rfl, ⟨_, rfl, Nat.le_succ _, ?_⟩, HS.out.1.bel⟩
              rw [HS.out.1.kept, HH.out.2.2.1, held_all HH.out.2.2.2.1 HS.out.1.len HH.out.2.2.2.2.1 HS.out.2]
theorem keep_any (p : Pl.Pol) (A : Option Addr) (n c : Nat) (l : List Pl.Rf) (now : Int) (w : World) (hl : l.length = n) (hn : n ≤ 1000000) (hr : Rd w 5 A n (rfCs l)) (hfit : ∀ x ∈ l, -9223372036854775808 ≤ x.t ∧ x.t ≤ 9223372036854775807) :
    Calls Tryz.prog 17 #[polV p, .slice A n c, .int .i64 now] w (RetB (KeepOut w.heap.size n (Pl.keepD p l now)) w) := by
  by_cases hE : Pl.polE p = 0
  · exact keep_good p A n c l now w hl hn hr hfit hE
  · exact keep_bad p A n c l now w hl hn hE
end Go.Proofs.YtmncgnmgdkdhaaaGreatDoor
