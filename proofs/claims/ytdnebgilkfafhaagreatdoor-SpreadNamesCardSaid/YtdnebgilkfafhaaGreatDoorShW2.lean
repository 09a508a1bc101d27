/- The walk of the reference's Check. -/
import Derived.Test.YtdnebgilkfafhaaGreatDoorShW1
namespace Go.Proofs.YtdnebgilkfafhaaGreatDoor
open Go.RowKit
set_option linter.unusedVariables false
attribute [local go_sem] ba_get ba_add

set_option maxRecDepth 100000 in
set_option maxHeartbeats 1000000 in
theorem rcheck_any (A A' : Option Addr) (n c m c' : Nat) (l : List Pl.Obj) (w : World) (hl : l.length = n) (ha : Rd w 4 A n (objCs l)) (hn : n ≤ 2513169434900) :
    Calls Tryz.prog 19 #[.agg #[.slice A n c, .slice A' m c']] w (RetB (fun v _ => v = .int .i64 (Pl.chk l : Int)) w) := by
  obtain ⟨E, hE⟩ : ∃ E, Pl.chk l = E := ⟨_, rfl⟩
  rw [hE]
  have HE := Lib.hid (And.intro hE hl); clear hE hl
  go_enter Tryz.func19, Tryz.ntmps19
  go_wp2_with fail
  obtain ⟨V, hV⟩ : ∃ V, w.alloc (.cells #[.slice A n c, .slice A' m c'] 26) = V := ⟨_, rfl⟩
  have hx0 : V.heap[w.heap.size]? = some (.cells #[.slice A n c, .slice A' m c'] 26 (0, 0)) := by rw [← hV]; exact heap_alloc_new w _
  have hbV : Below w.heap.size w V := by rw [← hV]; exact (Below.refl _ _).alloc (Nat.le_refl _) _
  have haV := ha.below hbV
  have hsV : w.heap.size < V.heap.size := by rw [← hV]; simp
  rw [hV]
  have HX := Lib.hid hx0; clear hx0 hV ha
  go_loopw [8] (fun i wr => ∃ (j : Nat), j ≤ n ∧ i = .int .i64 (j : Nat) ∧ Below V.heap.size V wr ∧ Hid (Pl.chkFrom l (n - j) j = E)) (fun i _ => n - (intOf i).toNat)
  case atStart => exact ⟨0, by omega, rfl, Below.refl _ _, by have := HE.out; unfold Pl.chk at this; rw [this.2] at this; exact this.1⟩
  case round =>
    obtain ⟨j, hj, rfl, hbr, HJ⟩ := hrel
    have hbw := hbV.trans (hbr.mono hbV.size)
    by_cases hjn : j < n
    · have hjl : j < l.length := by rw [HE.out.2]; exact hjn
      obtain ⟨b, off, rfl, hlt, p0, p1, p2, p3⟩ := (haV.below hbr).obj HE.out.2 hjn
      obtain ⟨y, hy⟩ : ∃ y, l[j] = y := ⟨_, rfl⟩
      rw [hy] at p0 p1 p2 p3
      have hst : (if Pl.objE (Pl.prevOf l j) y = 0 then Pl.chkFrom l (n - (j + 1)) (j + 1) else Pl.objE (Pl.prevOf l j) y) = E := by
        have := Pl.chkFrom_step l (n - (j + 1)) j hjl
        rw [show n - (j + 1) + 1 = n - j by omega, HJ.out, hy] at this
        exact this.symm
      have HY := Lib.hid (And.intro hst hy); clear hst hy HJ
      obtain ⟨nm, dt, ws, hd⟩ := y
      simp only at p0 p1 p2 p3
      have hx0 : wr.cell? ⟨w.heap.size, 0, none⟩ = some (.slice (some ⟨b, off, none⟩) n c) := (hbr.cell (p := ⟨w.heap.size, 0, none⟩) hsV).trans (cell_row V _ 0 _ _ HX.out)
      have hsw : w.heap.size < wr.heap.size := Nat.lt_of_lt_of_le hsV hbr.size
      obtain ⟨q, hq⟩ : ∃ q, Pl.okName nm = q := ⟨_, rfl⟩
      have hmn := fun w => rName_any nm w
      rw [hq] at hmn
      have HM := Lib.hid (And.intro hmn hq); clear hmn hq
      go_wp2_with fail
      (with_reducible refine (HM.out.1 _).mono ?_)
      rintro e w1 ⟨rfl, rfl⟩
      have hbr1 := hbr.alloc hbr.size (.cells #[.string ⟨nm.toArray⟩, .string ⟨dt.toArray⟩, .string ⟨ws.toArray⟩, .bool hd] 49)
      have hbw1 := hbw.alloc hbw.size (.cells #[.string ⟨nm.toArray⟩, .string ⟨dt.toArray⟩, .string ⟨ws.toArray⟩, .bool hd] 49)
      cases q
      · have h7 : Pl.objE (Pl.prevOf l j) ⟨nm, dt, ws, hd⟩ = 7 := by unfold Pl.objE; simp only [HM.out.2, if_true]
        have hE7 : E = 7 := by have := HY.out.1; rw [h7] at this; simpa using this.symm
        subst hE7
        go_wp2_with fail
        go_ret
        exact ⟨_, rfl, rfl, hbw1⟩
      · by_cases hj0 : j = 0
        · have hz1 : decide (0 < (j : Int)) = false := decide_eq_false (by omega)
          have hz2 : decide (0 < j) = false := decide_eq_false (by omega)
          have HZ := Lib.hid hj0; clear hj0
          go_wp2_with fail
          go_quiet (fail)
          go_wp2_with fail
          go_quiet (fail)
          have hpn : Pl.prevOf l j = none := by unfold Pl.prevOf; rw [if_pos HZ.out]
          have f1 : (Pl.prevOf l j).elim false (fun p => nm == p) = false := by rw [hpn]; rfl
          have f2 : (Pl.prevOf l j).elim false (fun p => Op.bytesLess nm p) = false := by rw [hpn]; rfl
          have HF := Lib.hid (And.intro f1 f2); clear hpn f1 f2
          cases hd
          all_goals go_wp2_with fail
          all_goals first
            | (go_ret
               refine ⟨_, rfl, ?_, by first | exact below_drewN hbw1 _ | exact below_drewN (below_drewN hbw1 _) _⟩
               have hE := Pl.ret_obj HY.out.1 (Pl.objE_6 HM.out.2 HF.out.1 HF.out.2 (by omega)) (by decide)
               rw [hE]; rfl)
            | (go_ret
               refine ⟨_, rfl, ?_, by first | exact below_drewN hbw1 _ | exact below_drewN (below_drewN hbw1 _) _⟩
               have hE := Pl.ret_obj HY.out.1 (Pl.objE_3 HM.out.2 HF.out.1 HF.out.2 (by omega) rfl (by rintro rfl; simp_all)) (by decide)
               rw [hE]; rfl)
            | (go_roundw
               case rel =>
                 refine ⟨j + 1, by omega, by go_num, by first | exact below_drewN hbr1 _ | exact below_drewN (below_drewN hbr1 _) _, ?_⟩
                 exact Eq.trans (Eq.symm (if_pos (Pl.objE_0 HM.out.2 HF.out.1 HF.out.2 (by omega) (by first | exact .inl rfl | exact .inr (by simp_all))))) HY.out.1
               case measure => simp [intOf]; omega)
        · have hz1 : decide (0 < (j : Int)) = true := decide_eq_true (by omega)
          have hz2 : decide (0 < j) = true := decide_eq_true (by omega)
          obtain ⟨b', off', e', -, p0', -, -, -⟩ := (haV.below hbr).obj HE.out.2 (i := j - 1) (by omega)
          injection e' with e'
          injection e' with e1 e2
          subst e1 e2
          obtain ⟨pv, hpv⟩ : ∃ pv, (l[j - 1]'(by omega)).name = pv := ⟨_, rfl⟩
          rw [hpv] at p0'
          have i1 : IntKind.i64.wrap ((j : Int) - 1) = (j : Int) - 1 := IntWalk.i64_in _ (by omega)
          have i2 : ((j : Int) - 1).toNat = j - 1 := by omega
          have i3 : 0 ≤ (j : Int) - 1 := by omega
          have i4 : (j : Int) - 1 < (n : Int) := by omega
          have hprev : Pl.prevOf l j = some pv := by unfold Pl.prevOf; rw [if_neg hj0, List.getElem?_eq_getElem (by omega)]; simp [hpv]
          have HP := Lib.hid (And.intro hprev hpv); clear hprev hpv hj0
          obtain ⟨q1, hq1⟩ : ∃ q, (nm == pv) = q := ⟨_, rfl⟩
          obtain ⟨q2, hq2⟩ : ∃ q, Op.bytesLess nm pv = q := ⟨_, rfl⟩
          cases q1
          · have f1 : (Pl.prevOf l j).elim false (fun p => nm == p) = false := by rw [HP.out.1]; exact hq1
            go_wp2_with fail
            go_quiet (fail)
            go_wp2_with fail
            cases q2
            · have f2 : (Pl.prevOf l j).elim false (fun p => Op.bytesLess nm p) = false := by rw [HP.out.1]; exact hq2
              have HF := Lib.hid (And.intro f1 f2); clear f1 f2
              go_quiet (fail)
              cases hd
              all_goals go_wp2_with fail
              all_goals first
                | (go_ret
                   refine ⟨_, rfl, ?_, by first | exact below_drewN hbw1 _ | exact below_drewN (below_drewN hbw1 _) _⟩
                   have hE := Pl.ret_obj HY.out.1 (Pl.objE_6 HM.out.2 HF.out.1 HF.out.2 (by omega)) (by decide)
                   rw [hE]; rfl)
                | (go_ret
                   refine ⟨_, rfl, ?_, by first | exact below_drewN hbw1 _ | exact below_drewN (below_drewN hbw1 _) _⟩
                   have hE := Pl.ret_obj HY.out.1 (Pl.objE_3 HM.out.2 HF.out.1 HF.out.2 (by omega) rfl (by rintro rfl; simp_all)) (by decide)
                   rw [hE]; rfl)
                | (go_roundw
                   case rel =>
                     refine ⟨j + 1, by omega, by go_num, by first | exact below_drewN hbr1 _ | exact below_drewN (below_drewN hbr1 _) _, ?_⟩
                     exact Eq.trans (Eq.symm (if_pos (Pl.objE_0 HM.out.2 HF.out.1 HF.out.2 (by omega) (by first | exact .inl rfl | exact .inr (by simp_all))))) HY.out.1
                   case measure => simp [intOf]; omega)
            · have f2 : (Pl.prevOf l j).elim false (fun p => Op.bytesLess nm p) = true := by rw [HP.out.1]; exact hq2
              have HF := Lib.hid (And.intro f1 f2); clear f1 f2
              have hE2 : E = 2 := Pl.ret_obj HY.out.1 (Pl.objE_2 HM.out.2 HF.out.1 HF.out.2) (by decide)
              have HE2 := Lib.hid hE2; clear hE2
              go_quiet (fail)
              go_wp2_with fail
              go_ret
              refine ⟨_, rfl, ?_, by first | exact below_drewN hbw1 _ | exact below_drewN (below_drewN hbw1 _) _⟩
              rw [HE2.out]; rfl
          · have f1 : (Pl.prevOf l j).elim false (fun p => nm == p) = true := by rw [HP.out.1]; exact hq1
            have hE8 : E = 8 := Pl.ret_obj HY.out.1 (Pl.objE_8 HM.out.2 f1) (by decide)
            have HF := Lib.hid f1; clear f1
            subst hE8
            go_wp2_with fail
            go_quiet (fail)
            go_wp2_with fail
            go_ret
            exact ⟨_, rfl, rfl, below_drewN hbw1 _⟩
    · obtain rfl : j = n := by omega
      have hE0 : E = 0 := by rw [← HJ.out, Nat.sub_self]; rfl
      subst hE0
      go_wp2_with fail
      go_ret
      exact ⟨_, rfl, rfl, hbw⟩
end Go.Proofs.YtdnebgilkfafhaaGreatDoor
