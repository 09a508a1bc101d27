/- The walk of the reference's Same of messages. -/
import Derived.Test.YtommlolhpaeioaaDoorWireS
namespace Go.Proofs.YtommlolhpaeioaaDoor
open Go.RowKit
set_option linter.unusedVariables false
set_option linter.unusedSimpArgs false
attribute [local go_sem] ba_get ba_cut ba_add
theorem eqM_no {a b : Pl.Msg} (h : ¬ (a.k = b.k ∧ a.data = b.data ∧ a.n = b.n ∧ a.why = b.why)) : Pl.eqM a b = false := by
  cases he : Pl.eqM a b
  · rfl
  · rw [Pl.eqM_iff] at he
    subst he
    simp at h
set_option maxRecDepth 100000 in
set_option maxHeartbeats 8000000 in
theorem same44_any (a b : Pl.Msg) (X Y : Cx) (w : World) (ha : SnOk w a.snap X) (hb : SnOk w b.snap Y) (fa : MgFit a) (fb : MgFit b) : Calls Tryd.prog 15 #[.agg (mgL a X).toArray, .agg (mgL b Y).toArray] w (RetB (fun v _ => v = .bool (Pl.eqM a b)) w) := by
  obtain ⟨R, hR⟩ : ∃ R, Pl.eqM a b = R := ⟨_, rfl⟩
  rw [hR]
  have HR := Lib.hid hR; clear hR
  have hss := fun W h1 h2 => samesnap_any a.snap b.snap X Y W h1 h2 fa.snap fb.snap
  have HIS := Lib.hid (And.intro (info_sn ha) (info_sn hb))
  have HSM := Lib.hid (And.intro ha.sum hb.sum)
  have HSS := Lib.hid hss; clear hss
  obtain ⟨LA, hLA⟩ : ∃ LA, mgL a X = LA := ⟨_, rfl⟩
  obtain ⟨LB, hLB⟩ : ∃ LB, mgL b Y = LB := ⟨_, rfl⟩
  rw [hLA, hLB]
  go_enter Tryd.func15, Tryd.ntmps15
  go_upto_region 1 with (fail)
  generalize hV : (w.alloc _).alloc _ = V
  have hx : Mg V w.heap.size a X := by
    rw [← hV]
    exact (mg_row (w := w.alloc (.cells LA.toArray 31)) HSM.out.1 (by rw [hLA]; exact heap_alloc_new w _)).keep HSM.out.1 (B' := w.heap.size + 1) (by omega) ((Below.refl _ _).alloc (by simp) _)
  have hy : Mg V (w.heap.size + 1) b Y := by
    rw [← hV]
    exact mg_row HSM.out.2 (by rw [hLB]; exact heap_alloc_2 w _ _)
  have hbV : Below w.heap.size w V := by rw [← hV]; exact ((Below.refl _ _).alloc (Nat.le_refl _) _).alloc (by simp) _
  replace ha := ha.below hbV
  replace hb := hb.below hbV
  clear hV hLA hLB
  have HB := Lib.hid hbV; clear hbV
  have hsa := hx.snap
  have hsb := hy.snap
  have hia := HIS.out.1
  have hib := HIS.out.2
  obtain ⟨SA, hSA⟩ : ∃ L, snL a.snap X = L := ⟨_, rfl⟩
  obtain ⟨SB, hSB⟩ : ∃ L, snL b.snap Y = L := ⟨_, rfl⟩
  rw [hSA] at hsa hia
  rw [hSB] at hsb hib
  have HA := Lib.hid (And.intro hsa (And.intro hia hSA))
  have HBB := Lib.hid (And.intro hsb (And.intro hib hSB))
  clear hsa hsb hia hib hSA hSB
  obtain ⟨-, c0, c1, -, -, -, -, -, -, -, -, -, -, -, c3, c4⟩ := hx
  obtain ⟨-, d0, d1, -, -, -, -, -, -, -, -, -, -, -, d3, d4⟩ := hy
  by_cases e0 : a.k = b.k
  rotate_left
  · have t0 : (a.k == b.k) = false := beq_eq_false_iff_ne.2 e0
    have HR2 := Lib.hid (show R = false by rw [← HR.out]; exact eqM_no (fun h => e0 h.1))
    go_wp2_with fail
    go_ret
    exact ⟨_, rfl, by rw [HR2.out]; rfl, HB.out⟩
  have t0 : (a.k == b.k) = true := beq_iff_eq.2 e0
  by_cases e1 : a.data = b.data
  rotate_left
  · have t1 : (a.data == b.data) = false := beq_eq_false_iff_ne.2 e1
    have HR2 := Lib.hid (show R = false by rw [← HR.out]; exact eqM_no (fun h => e1 h.2.1))
    go_wp2_with fail
    go_ret
    exact ⟨_, rfl, by rw [HR2.out]; rfl, HB.out⟩
  have t1 : (a.data == b.data) = true := beq_iff_eq.2 e1
  by_cases e2 : a.n = b.n
  rotate_left
  · have t2 : (a.n == b.n) = false := beq_eq_false_iff_ne.2 e2
    have HR2 := Lib.hid (show R = false by rw [← HR.out]; exact eqM_no (fun h => e2 h.2.2.1))
    go_wp2_with fail
    go_ret
    exact ⟨_, rfl, by rw [HR2.out]; rfl, HB.out⟩
  have t2 : (a.n == b.n) = true := beq_iff_eq.2 e2
  by_cases e3 : a.why = b.why
  rotate_left
  · have t3 : (a.why == b.why) = false := beq_eq_false_iff_ne.2 e3
    have HR2 := Lib.hid (show R = false by rw [← HR.out]; exact eqM_no (fun h => e3 h.2.2.2))
    go_wp2_with fail
    go_ret
    exact ⟨_, rfl, by rw [HR2.out]; rfl, HB.out⟩
  have t3 : (a.why == b.why) = true := beq_iff_eq.2 e3
  have HR2 := Lib.hid (show R = Pl.eqS a.snap b.snap by rw [← HR.out]; simp [Pl.eqM, e0, e1, e2, e3])
  clear e0 e1 e2 e3
  go_wp2_with (first
    | (with_reducible refine wpList_load_mid_g (by with_unfolding_all rfl) 28 _ rfl w.heap.size 2 rfl SA _ HA.out.1 Tryd.underlying28 rfl HA.out.2.1 ?_)
    | (with_reducible refine wpList_load_mid_g (by with_unfolding_all rfl) 28 _ rfl (w.heap.size + 1) 2 rfl SB _ HBB.out.1 Tryd.underlying28 rfl HBB.out.2.1 ?_))
  rw [← HA.out.2.2, ← HBB.out.2.2]
  (with_reducible refine (HSS.out _ ha hb).mono ?_)
  rintro e w1 ⟨v, rfl, rfl, hb1⟩
  rw [← HR2.out]
  go_wp2_with fail
  go_ret
  exact ⟨_, rfl, rfl, HB.out.trans (hb1.mono HB.out.size)⟩
end Go.Proofs.YtommlolhpaeioaaDoor
