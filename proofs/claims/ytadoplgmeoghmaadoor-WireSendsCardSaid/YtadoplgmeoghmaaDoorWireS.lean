/- The walks of the reference's SameSnap and Same of messages. The walk of the reference's Same of messages. -/
import Derived.Test.YtadoplgmeoghmaaDoorWireM
namespace Go.Proofs.YtadoplgmeoghmaaDoor
open Go.RowKit
set_option linter.unusedVariables false
set_option linter.unusedSimpArgs false
attribute [local go_sem] ba_get ba_cut ba_add
theorem eqS_nolone {a b : Pl.Snap} (h : Pl.lone a b = false) : Pl.eqS a b = false := by
  cases he : Pl.eqS a b
  · rfl
  · rw [Pl.eqS_iff] at he
    subst he
    simp [Pl.lone] at h
theorem cell_same {V W : World} {B : Nat} {s : Pl.Snap} {X : Cx} (hx : SnAt V B 0 s X) (hy : SnAt W B 0 s X) {k : Nat} (hk : k < 3) : V.cell? ⟨B, 6 + k, none⟩ = W.cell? ⟨B, 6 + k, none⟩ := by
  obtain ⟨-, c0, c1, c2, c3, c4, c5, c6, c7, c8⟩ := hx
  obtain ⟨-, d0, d1, d2, d3, d4, d5, d6, d7, d8⟩ := hy
  simp only [Nat.zero_add] at c6 c7 c8 d6 d7 d8
  obtain rfl | rfl | rfl : k = 0 ∨ k = 1 ∨ k = 2 := by omega
  · exact c6.trans d6.symm
  · exact c7.trans d7.symm
  · exact c8.trans d8.symm
def EqTo (l l' : List (List UInt8)) (k : Nat) : Prop := ∀ j, j < k → l[j]? = l'[j]?
theorem eqTo_step {l l' : List (List UInt8)} {k : Nat} (h : EqTo l l' k) (hk : l[k]? = l'[k]?) : EqTo l l' (k + 1) := fun j hj => by
  rcases Nat.lt_or_ge j k with h1 | h1
  · exact h j h1
  · obtain rfl : j = k := by omega
    exact hk
theorem eqTo_all {l l' : List (List UInt8)} {n : Nat} (h : EqTo l l' n) (h1 : l.length = n) (h2 : l'.length = n) : l = l' := List.ext_getElem? fun i => by
  rcases Nat.lt_or_ge i n with hi | hi
  · exact h i hi
  · rw [List.getElem?_eq_none (by omega), List.getElem?_eq_none (by omega)]
set_option maxRecDepth 100000 in
set_option maxHeartbeats 8000000 in
theorem samesnap_any (a b : Pl.Snap) (X Y : Cx) (w : World) (ha : SnOk w a X) (hb : SnOk w b Y) (fa : SnFit a) (fb : SnFit b) : Calls Tryd.prog 29 #[.agg (snL a X).toArray, .agg (snL b Y).toArray] w (RetB (fun v _ => v = .bool (Pl.eqS a b)) w) := by
  obtain ⟨R, hR⟩ : ∃ R, Pl.eqS a b = R := ⟨_, rfl⟩
  rw [hR]
  have HR := Lib.hid hR; clear hR
  have HF := Lib.hid (And.intro fa fb); clear fa fb
  obtain ⟨LA, hLA⟩ : ∃ LA, snL a X = LA := ⟨_, rfl⟩
  obtain ⟨LB, hLB⟩ : ∃ LB, snL b Y = LB := ⟨_, rfl⟩
  rw [hLA, hLB]
  go_enter Tryd.func29, Tryd.ntmps29
  go_upto_region 1 with (fail)
  generalize hV : (w.alloc _).alloc _ = V
  have hx : SnAt V w.heap.size 0 a X := by rw [← hV, ← hLA]; exact (snAt_new w a X).below (by simp) ((Below.refl _ _).alloc (Nat.le_refl _) _)
  have hy : SnAt V (w.heap.size + 1) 0 b Y := by
    rw [← hV, ← hLB]
    have := snAt_new (w.alloc (.cells LA.toArray 31)) b Y
    simpa using this
  have hbV : Below w.heap.size w V := by rw [← hV]; exact ((Below.refl _ _).alloc (Nat.le_refl _) _).alloc (by simp) _
  replace ha := ha.below hbV
  replace hb := hb.below hbV
  clear hV hLA hLB
  have HX := Lib.hid (And.intro hx hy)
  have HOK := Lib.hid (And.intro ha hb)
  have HBV := Lib.hid hbV
  obtain ⟨-, c0, c1, c2, c3, c4, c5, -, -, -⟩ := hx
  obtain ⟨-, d0, d1, d2, d3, d4, d5, -, -, -⟩ := hy
  simp only [Nat.zero_add] at c0 c1 c2 c3 c4 c5 d0 d1 d2 d3 d4 d5
  have hra := snAt_sum HX.out.1
  have hrb := snAt_sum HX.out.2
  have hla := ha.sum
  have hlb := hb.sum
  have heq := eql_dig hla hlb
  have hia := info_byl hla
  have hib := info_byl hlb
  obtain ⟨DA, hDA⟩ : ∃ D, byC a.sum = D := ⟨_, rfl⟩
  obtain ⟨DB, hDB⟩ : ∃ D, byC b.sum = D := ⟨_, rfl⟩
  rw [hDA] at hra heq hia
  rw [hDB] at hrb heq hib
  have HIA := Lib.hid (And.intro hra hia)
  have HIB := Lib.hid (And.intro hrb hib)
  clear hra hrb hia hib hla hlb hDA hDB ha hb hbV
  by_cases e0 : a.m = b.m
  rotate_left
  · have t0 : (a.m == b.m) = false := beq_eq_false_iff_ne.2 e0
    have u0 : (a.m != b.m) = true := by unfold bne; rw [t0]; rfl
    have HR2 := Lib.hid (show R = false by rw [← HR.out]; exact eqS_nolone (by simp [Pl.lone, e0]))
    clear heq
    go_wp2_with fail
    go_ret
    exact ⟨_, rfl, by rw [HR2.out]; rfl, HBV.out⟩
  have t0 : (a.m == b.m) = true := beq_iff_eq.2 e0
  have u0 : (a.m != b.m) = false := by unfold bne; rw [t0]; rfl
  by_cases e1 : a.n = b.n
  rotate_left
  · have t1 : (a.n == b.n) = false := beq_eq_false_iff_ne.2 e1
    have u1 : (a.n != b.n) = true := by unfold bne; rw [t1]; rfl
    have HR2 := Lib.hid (show R = false by rw [← HR.out]; exact eqS_nolone (by simp [Pl.lone, e1]))
    clear heq
    go_wp2_with fail
    go_ret
    exact ⟨_, rfl, by rw [HR2.out]; rfl, HBV.out⟩
  have t1 : (a.n == b.n) = true := beq_iff_eq.2 e1
  have u1 : (a.n != b.n) = false := by unfold bne; rw [t1]; rfl
  by_cases e2 : a.at_ = b.at_
  rotate_left
  · have t2 : (a.at_ == b.at_) = false := beq_eq_false_iff_ne.2 e2
    have u2 : (a.at_ != b.at_) = true := by unfold bne; rw [t2]; rfl
    have HR2 := Lib.hid (show R = false by rw [← HR.out]; exact eqS_nolone (by simp [Pl.lone, e2]))
    clear heq
    go_wp2_with fail
    go_ret
    exact ⟨_, rfl, by rw [HR2.out]; rfl, HBV.out⟩
  have t2 : (a.at_ == b.at_) = true := beq_iff_eq.2 e2
  have u2 : (a.at_ != b.at_) = false := by unfold bne; rw [t2]; rfl
  by_cases e3 : a.clock = b.clock
  rotate_left
  · have t3 : (a.clock == b.clock) = false := beq_eq_false_iff_ne.2 e3
    have u3 : (a.clock != b.clock) = true := by unfold bne; rw [t3]; rfl
    have HR2 := Lib.hid (show R = false by rw [← HR.out]; exact eqS_nolone (by simp [Pl.lone, e3]))
    clear heq
    go_wp2_with fail
    go_ret
    exact ⟨_, rfl, by rw [HR2.out]; rfl, HBV.out⟩
  have t3 : (a.clock == b.clock) = true := beq_iff_eq.2 e3
  have u3 : (a.clock != b.clock) = false := by unfold bne; rw [t3]; rfl
  by_cases e4 : a.pages = b.pages
  rotate_left
  · have t4 : (a.pages == b.pages) = false := beq_eq_false_iff_ne.2 e4
    have u4 : (a.pages != b.pages) = true := by unfold bne; rw [t4]; rfl
    have HR2 := Lib.hid (show R = false by rw [← HR.out]; exact eqS_nolone (by simp [Pl.lone, e4]))
    clear heq
    go_wp2_with fail
    go_ret
    exact ⟨_, rfl, by rw [HR2.out]; rfl, HBV.out⟩
  have t4 : (a.pages == b.pages) = true := beq_iff_eq.2 e4
  have u4 : (a.pages != b.pages) = false := by unfold bne; rw [t4]; rfl
  by_cases e5 : a.blocks = b.blocks
  rotate_left
  · have t5 : (a.blocks == b.blocks) = false := beq_eq_false_iff_ne.2 e5
    have u5 : (a.blocks != b.blocks) = true := by unfold bne; rw [t5]; rfl
    have HR2 := Lib.hid (show R = false by rw [← HR.out]; exact eqS_nolone (by simp [Pl.lone, e5]))
    clear heq
    go_wp2_with fail
    go_ret
    exact ⟨_, rfl, by rw [HR2.out]; rfl, HBV.out⟩
  have t5 : (a.blocks == b.blocks) = true := beq_iff_eq.2 e5
  have u5 : (a.blocks != b.blocks) = false := by unfold bne; rw [t5]; rfl
  obtain ⟨Q, hQ⟩ : ∃ Q, decide (a.sum = b.sum) = Q := ⟨_, rfl⟩
  have HE := Lib.hid (show Pl.lone a b = Q by simp [Pl.lone, e0, e1, e2, e3, e4, e5, hQ])
  rw [hQ] at heq
  clear e0 e1 e2 e3 e4 e5 hQ
  cases Q with
  | false =>
    have HR2 := Lib.hid (show R = false by rw [← HR.out]; exact eqS_nolone HE.out)
    go_wp2_with (first | (with_reducible refine wpList_load_mid_g (by with_unfolding_all rfl) 29 _ rfl w.heap.size 9 rfl DA _ HIA.out.1 Tryd.underlying29 rfl HIA.out.2 ?_) | (with_reducible refine wpList_load_mid_g (by with_unfolding_all rfl) 29 _ rfl (w.heap.size + 1) 9 rfl DB _ HIB.out.1 Tryd.underlying29 rfl HIB.out.2 ?_))
    go_ret
    exact ⟨_, rfl, by rw [HR2.out]; rfl, HBV.out⟩
  | true =>
    go_wp2_with (first | (with_reducible refine wpList_load_mid_g (by with_unfolding_all rfl) 29 _ rfl w.heap.size 9 rfl DA _ HIA.out.1 Tryd.underlying29 rfl HIA.out.2 ?_) | (with_reducible refine wpList_load_mid_g (by with_unfolding_all rfl) 29 _ rfl (w.heap.size + 1) 9 rfl DB _ HIB.out.1 Tryd.underlying29 rfl HIB.out.2 ?_))
    clear t0 t1 t2 t3 t4 t5 u0 u1 u2 u3 u4 u5 c0 c1 c2 c3 c4 c5 d0 d1 d2 d3 d4 d5 heq
    go_loopw [5] (fun i wr => ∃ (k : Nat), k ≤ 3 ∧ i = .int .i64 (k : Nat) ∧ Hid (SnAt wr w.heap.size 0 a X ∧ SnAt wr (w.heap.size + 1) 0 b Y) ∧ Hid (SnOk wr a X ∧ SnOk wr b Y) ∧ Hid (Below w.heap.size w wr) ∧ Hid (SameTo a b k)) (fun i _ => 3 - (intOf i).toNat)
    case atStart => exact ⟨0, by omega, rfl, HX, HOK, HBV, (fun j hj => absurd hj (by omega) : SameTo a b 0)⟩
    case round =>
      clear HX HOK HBV HIA HIB
      obtain ⟨k, hk, rfl, HX, HOK, HB, HS⟩ := hrel
      by_cases hk3 : k < 3
      · obtain ⟨A, n, c, hc1, hs1⟩ := three_cell HX.out.1 hk3
        obtain ⟨A', n', c', hc2, hs2⟩ := three_cell HX.out.2 hk3
        have HCC : Hid ((∀ W, SnAt W w.heap.size 0 a X → W.cell? ⟨w.heap.size, 6 + k, none⟩ = some (.slice A n c)) ∧ (∀ W, SnAt W (w.heap.size + 1) 0 b Y → W.cell? ⟨w.heap.size + 1, 6 + k, none⟩ = some (.slice A' n' c'))) := by
          refine ⟨fun W h => ?_, fun W h => ?_⟩
          · rw [← hc1]; exact cell_same h HX.out.1 hk3
          · rw [← hc2]; exact cell_same h HX.out.2 hk3
        have hr1 : Rd wr 1 A n (strs (Pl.ck a k)) := (hs1 wr HOK.out.1).1
        have hr2 : Rd wr 1 A' n' (strs (Pl.ck b k)) := (hs2 wr HOK.out.2).1
        have hl1 : (Pl.ck a k).length = n := by have h1 := hr1.len1; rwa [strs_len] at h1
        have hl2 : (Pl.ck b k).length = n' := by have h1 := hr2.len1; rwa [strs_len] at h1
        have hn1 : n ≤ 140737488355328 := by rw [← hl1]; exact (ck_fit HF.out.1 k).1
        have hj1 : (0 : Int) ≤ (k : Int) := by omega
        have hj2 : (k : Int) < 3 := by omega
        obtain ⟨L, hL⟩ : ∃ L, Pl.ck a k = L := ⟨_, rfl⟩
        obtain ⟨L', hL'⟩ : ∃ L, Pl.ck b k = L := ⟨_, rfl⟩
        have HL := Lib.hid (And.intro hL hL'); clear hL hL'
        rw [HL.out.1] at hr1 hl1
        rw [HL.out.2] at hr2 hl2
        by_cases hnn : n = n'
        rotate_left
        · have hd0 : ((n : Int) == (n' : Int)) = false := beq_eq_false_iff_ne.2 (by omega)
          have hd : ((n : Int) != (n' : Int)) = true := by unfold bne; rw [hd0]; rfl
          have HR2 := Lib.hid (show R = false by rw [← HR.out]; exact eqS_no hk3 (by rw [HL.out.1, HL.out.2]; intro h; rw [h] at hl1; omega))
          clear hl1 hl2 hr1 hr2 hs1 hs2
          go_wp2_with fail
          go_quiet (fail)
          go_wp2_with fail
          go_ret
          exact ⟨_, rfl, by rw [HR2.out]; rfl, below_drewN HB.out _⟩
        have hd0 : ((n : Int) == (n' : Int)) = true := beq_iff_eq.2 (by omega)
        have hd : ((n : Int) != (n' : Int)) = false := by unfold bne; rw [hd0]; rfl
        have HLL := Lib.hid (And.intro hl1 hl2)
        have HSS := Lib.hid (And.intro hs1 hs2)
        clear hl1 hl2 hs1 hs2 hr1 hr2
        go_wp2_with fail
        go_quiet (fail)
        go_wp2_with fail
        have hb1 := below_drewN HB.out nq
        have HX1 := Lib.hid (And.intro (HX.out.1.keep (w' := wr.drewN nq) (fun _ => rfl)) (HX.out.2.keep (w' := wr.drewN nq) (fun _ => rfl)))
        have HOK1 := Lib.hid (And.intro (HOK.out.1.below (below_drewN (Below.refl _ _) nq)) (HOK.out.2.below (below_drewN (Below.refl _ _) nq)))
        have HB1 := Lib.hid hb1; clear hb1
        go_loopw [6, 74] (fun _ i wr => ∃ (j : Nat), j ≤ n ∧ i = .int .i64 (j : Nat) ∧ Hid (SnAt wr w.heap.size 0 a X ∧ SnAt wr (w.heap.size + 1) 0 b Y) ∧ Hid (SnOk wr a X ∧ SnOk wr b Y) ∧ Hid (Below w.heap.size w wr) ∧ Hid (EqTo L L' j)) (fun _ i _ => n - (intOf i).toNat)
        case atStart => exact ⟨0, by omega, rfl, HX1, HOK1, HB1, (fun j hj => absurd hj (by omega) : EqTo L L' 0)⟩
        case round =>
          clear HX HOK HB HX1 HOK1 HB1 hc1 hc2
          obtain ⟨j, hj, rfl, HX, HOK, HB, HQ⟩ := hrel
          by_cases hjn : j < n
          · have hi1 : (0 : Int) ≤ (j : Int) := by omega
            have hi2 : (j : Int) < (n : Int) := by omega
            have hi3 : (j : Int) < (n' : Int) := by omega
            obtain ⟨hc1, hc2⟩ := And.intro (HCC.out.1 _ HX.out.1) (HCC.out.2 _ HX.out.2)
            have hr1 := (HSS.out.1 _ HOK.out.1).1
            have hr2 := (HSS.out.2 _ HOK.out.2).1
            rw [HL.out.1] at hr1
            rw [HL.out.2] at hr2
            have hjl : j < L.length := by rw [HLL.out.1]; exact hjn
            have hjl' : j < L'.length := by rw [HLL.out.2]; omega
            obtain ⟨b1, o1, rfl, -, hx1⟩ := hr1.at1 hjn
            obtain ⟨b2, o2, rfl, -, hx2⟩ := hr2.at1 (by omega : j < n')
            rw [strs_get L j hjl] at hx1
            rw [strs_get L' j hjl'] at hx2
            have hg1 : L[j]? = some L[j] := List.getElem?_eq_getElem hjl
            have hg2 : L'[j]? = some L'[j] := List.getElem?_eq_getElem hjl'
            obtain ⟨x, hx⟩ : ∃ x, L[j] = x := ⟨_, rfl⟩
            obtain ⟨y, hy⟩ : ∃ x, L'[j] = x := ⟨_, rfl⟩
            rw [hx] at hx1 hg1
            rw [hy] at hx2 hg2
            have HG := Lib.hid (And.intro hg1 hg2)
            clear hr1 hr2 hg1 hg2 hx hy
            by_cases hxy : x = y
            · have t : (x == y) = true := beq_iff_eq.2 hxy
              have u : (x != y) = false := by unfold bne; rw [t]; rfl
              have HXY := Lib.hid hxy; clear hxy
              go_wp2_with fail
              go_quiet (fail)
              go_wp2_with fail
              go_roundw
              case rel => exact ⟨j + 1, by omega, by go_num, ⟨HX.out.1.keep (fun _ => rfl), HX.out.2.keep (fun _ => rfl)⟩, ⟨HOK.out.1.below (below_drewN (Below.refl _ _) _), HOK.out.2.below (below_drewN (Below.refl _ _) _)⟩, below_drewN HB.out _, eqTo_step HQ.out (by rw [HG.out.1, HG.out.2, HXY.out])⟩
              case measure => simp [intOf]; omega
            · have t : (x == y) = false := beq_eq_false_iff_ne.2 hxy
              have u : (x != y) = true := by unfold bne; rw [t]; rfl
              have HR2 := Lib.hid (show R = false by
                rw [← HR.out]
                refine eqS_no hk3 ?_
                rw [HL.out.1, HL.out.2]
                intro h
                have := HG.out
                rw [h] at this
                exact hxy (Option.some.inj (this.1.symm.trans this.2)))
              clear hxy
              go_wp2_with fail
              go_quiet (fail)
              go_wp2_with fail
              go_ret
              exact ⟨_, rfl, by rw [HR2.out]; rfl, below_drewN HB.out _⟩
          · obtain rfl : n = j := by omega
            have HN := Lib.hid (show Pl.ck a k = Pl.ck b k by rw [HL.out.1, HL.out.2]; exact eqTo_all HQ.out HLL.out.1 (by rw [HLL.out.2]; omega))
            go_wp2_with fail
            go_roundw
            case rel => exact ⟨k + 1, by omega, by go_num, HX, HOK, HB, sameTo_step HS.out HN.out⟩
            case measure => simp [intOf]; omega
      · obtain rfl : k = 3 := by omega
        have HR2 := Lib.hid (show R = true by rw [← HR.out, eqS_lone HS.out]; exact HE.out)
        go_wp2_with fail
        go_ret
        exact ⟨_, rfl, by rw [HR2.out]; rfl, HB.out⟩
end Go.Proofs.YtadoplgmeoghmaaDoor
namespace Go.Proofs.YtadoplgmeoghmaaDoor
open Go.RowKit
set_option linter.unusedVariables false
set_option linter.unusedSimpArgs false
attribute [local go_sem] ba_get ba_cut ba_add
theorem eqM_no {a b : Pl.Msg} (h : ¬ (a.k = b.k ∧ a.data = b.data ∧ a.n = b.n ∧ a.why = b.why)) : Pl.eqM a b = false := by
  cases he : Pl.eqM a b
  · rfl
  · rw [Pl.eqM_iff] at he
    subst he
    simp at h
set_option maxRecDepth 100000 in
set_option maxHeartbeats 8000000 in
theorem same44_any (a b : Pl.Msg) (X Y : Cx) (w : World) (ha : SnOk w a.snap X) (hb : SnOk w b.snap Y) (fa : MgFit a) (fb : MgFit b) : Calls Tryd.prog 12 #[.agg (mgL a X).toArray, .agg (mgL b Y).toArray] w (RetB (fun v _ => v = .bool (Pl.eqM a b)) w) := by
  obtain ⟨R, hR⟩ : ∃ R, Pl.eqM a b = R := ⟨_, rfl⟩
  rw [hR]
  have HR := Lib.hid hR; clear hR
  have hss := fun W h1 h2 => samesnap_any a.snap b.snap X Y W h1 h2 fa.snap fb.snap
  have HIS := Lib.hid (And.intro (info_sn ha) (info_sn hb))
  have HSM := Lib.hid (And.intro ha.sum hb.sum)
  have HSS := Lib.hid hss; clear hss
  obtain ⟨LA, hLA⟩ : ∃ LA, mgL a X = LA := ⟨_, rfl⟩
  obtain ⟨LB, hLB⟩ : ∃ LB, mgL b Y = LB := ⟨_, rfl⟩
  rw [hLA, hLB]
  go_enter Tryd.func12, Tryd.ntmps12
  go_upto_region 1 with (fail)
  generalize hV : (w.alloc _).alloc _ = V
  have hx : Mg V w.heap.size a X := by
    rw [← hV]
    exact (mg_row (w := w.alloc (.cells LA.toArray 34)) HSM.out.1 (by rw [hLA]; exact heap_alloc_new w _)).keep HSM.out.1 (B' := w.heap.size + 1) (by omega) ((Below.refl _ _).alloc (by simp) _)
  have hy : Mg V (w.heap.size + 1) b Y := by
    rw [← hV]
    exact mg_row HSM.out.2 (by rw [hLB]; exact heap_alloc_2 w _ _)
  have hbV : Below w.heap.size w V := by rw [← hV]; exact ((Below.refl _ _).alloc (Nat.le_refl _) _).alloc (by simp) _
  replace ha := ha.below hbV
  replace hb := hb.below hbV
  clear hV hLA hLB
  have HB := Lib.hid hbV; clear hbV
  have hsa := hx.snap
  have hsb := hy.snap
  have hia := HIS.out.1
  have hib := HIS.out.2
  obtain ⟨SA, hSA⟩ : ∃ L, snL a.snap X = L := ⟨_, rfl⟩
  obtain ⟨SB, hSB⟩ : ∃ L, snL b.snap Y = L := ⟨_, rfl⟩
  rw [hSA] at hsa hia
  rw [hSB] at hsb hib
  have HA := Lib.hid (And.intro hsa (And.intro hia hSA))
  have HBB := Lib.hid (And.intro hsb (And.intro hib hSB))
  clear hsa hsb hia hib hSA hSB
  obtain ⟨-, c0, c1, -, -, -, -, -, -, -, -, -, -, -, c3, c4⟩ := hx
  obtain ⟨-, d0, d1, -, -, -, -, -, -, -, -, -, -, -, d3, d4⟩ := hy
  by_cases e0 : a.k = b.k
  rotate_left
  · have t0 : (a.k == b.k) = false := beq_eq_false_iff_ne.2 e0
    have HR2 := Lib.hid (show R = false by rw [← HR.out]; exact eqM_no (fun h => e0 h.1))
    go_wp2_with fail
    go_ret
    exact ⟨_, rfl, by rw [HR2.out]; rfl, HB.out⟩
  have t0 : (a.k == b.k) = true := beq_iff_eq.2 e0
  by_cases e1 : a.data = b.data
  rotate_left
  · have t1 : (a.data == b.data) = false := beq_eq_false_iff_ne.2 e1
    have HR2 := Lib.hid (show R = false by rw [← HR.out]; exact eqM_no (fun h => e1 h.2.1))
    go_wp2_with fail
    go_ret
    exact ⟨_, rfl, by rw [HR2.out]; rfl, HB.out⟩
  have t1 : (a.data == b.data) = true := beq_iff_eq.2 e1
  by_cases e2 : a.n = b.n
  rotate_left
  · have t2 : (a.n == b.n) = false := beq_eq_false_iff_ne.2 e2
    have HR2 := Lib.hid (show R = false by rw [← HR.out]; exact eqM_no (fun h => e2 h.2.2.1))
    go_wp2_with fail
    go_ret
    exact ⟨_, rfl, by rw [HR2.out]; rfl, HB.out⟩
  have t2 : (a.n == b.n) = true := beq_iff_eq.2 e2
  by_cases e3 : a.why = b.why
  rotate_left
  · have t3 : (a.why == b.why) = false := beq_eq_false_iff_ne.2 e3
    have HR2 := Lib.hid (show R = false by rw [← HR.out]; exact eqM_no (fun h => e3 h.2.2.2))
    go_wp2_with fail
    go_ret
    exact ⟨_, rfl, by rw [HR2.out]; rfl, HB.out⟩
  have t3 : (a.why == b.why) = true := beq_iff_eq.2 e3
  have HR2 := Lib.hid (show R = Pl.eqS a.snap b.snap by rw [← HR.out]; simp [Pl.eqM, e0, e1, e2, e3])
  clear e0 e1 e2 e3
  go_wp2_with (first
    | (with_reducible refine wpList_load_mid_g (by with_unfolding_all rfl) 31 _ rfl w.heap.size 2 rfl SA _ HA.out.1 Tryd.underlying31 rfl HA.out.2.1 ?_)
    | (with_reducible refine wpList_load_mid_g (by with_unfolding_all rfl) 31 _ rfl (w.heap.size + 1) 2 rfl SB _ HBB.out.1 Tryd.underlying31 rfl HBB.out.2.1 ?_))
  rw [← HA.out.2.2, ← HBB.out.2.2]
  (with_reducible refine (HSS.out _ ha hb).mono ?_)
  rintro e w1 ⟨v, rfl, rfl, hb1⟩
  rw [← HR2.out]
  go_wp2_with fail
  go_ret
  exact ⟨_, rfl, rfl, HB.out.trans (hb1.mono HB.out.size)⟩
end Go.Proofs.YtadoplgmeoghmaaDoor
