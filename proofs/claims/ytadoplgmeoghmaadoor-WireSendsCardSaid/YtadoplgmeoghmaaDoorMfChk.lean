/- The walks of manifest's Check and the document's: why a snapshot may not be. -/
import Derived.Test.YtadoplgmeoghmaaDoorHashW
import Derived.Test.YtadoplgmeoghmaaDoorMfW1
namespace Go.Proofs.YtadoplgmeoghmaaDoor
open Go.RowKit
set_option linter.unusedVariables false
set_option linter.unusedSimpArgs false

def digOf (o : Option (List UInt8)) : List Value := match o with | some d => byC d | none => zero32
theorem digOf_len {s : List UInt8} : (digOf (Pl.hashOf s)).length = 32 := by
  cases h : Pl.hashOf s with
  | none => rfl
  | some d =>
    unfold Pl.hashOf at h
    split at h
    · show (byC d).length = 32
      rw [byC_len]; exact Pl.firstK_len h
    · cases h
theorem digOf_one (o : Option (List UInt8)) : (digOf o).toArray.all (·.oneCell') = true := by
  cases o with
  | none => exact onea_zz
  | some d => exact onea_by d
def DigOut (D : List Value) (b : Bool) (v : Value) (_ : World) : Prop := v = .tuple #[.agg D.toArray, .bool b]
theorem of_at (s : List UInt8) (w : World) (hs : s.length ≤ 140737488355328) : Calls Tryd.prog 39 #[.string ⟨s.toArray⟩] w (RetB (DigOut (digOf (Pl.hashOf s)) (Pl.okN s)) w) :=
  (of_any s w hs).mono fun _ _ ⟨v, he, hv, hb⟩ => ⟨v, he, hv, hb⟩
/-- A digest goes into the variable that was made last. -/
theorem wpList_store_dig {ops : Array Oper} {rest : List Oper} {op : Oper} {a : Act} {w : World} {Q : Exit → Act → World → Prop} (hgd : op.guard = none) (x y : Operand) (ho : op.op = .store 29 x y)
    (c : Array Value) (D : List Value) (hx : a.eval x = .pointer (some ⟨w.heap.size, 0, none⟩)) (hy : a.eval y = .agg D.toArray) (hc : c.size = 32) (hD : D.length = 32) (h1 : D.toArray.all (·.oneCell') = true)
    (h : wpList Tryd.prog ops Q rest (a.put op.dst undef) (w.alloc (.cells D.toArray 29))) : wpList Tryd.prog ops Q (op :: rest) a (w.alloc (.cells c 29)) :=
  wpList_plain hgd fun _ hK => by
    have e := run_storeVar_new (P := Tryd.prog) w 29 c D.toArray (by rw [List.size_toArray, hD]; exact info_dig) (by rw [hc, List.size_toArray, hD]) h1
    unfold Oper.wp execOp
    simp only [ho, hx, hy, Instr.storeAt, Instr.sureAddr, Sem.run_bind, Sem.run_pure, Result.andThen_ok, e]
    exact hK _ _ h
def AllTo (l : List (List UInt8)) (k : Nat) : Prop := ∀ j (h : j < l.length), j < k → Pl.okN l[j] = true
theorem allTo_step {l : List (List UInt8)} {k : Nat} (h : AllTo l k) (hk : k < l.length) (hc : Pl.okN l[k] = true) : AllTo l (k + 1) := by
  intro j hj hjk
  rcases Nat.lt_or_ge j k with h1 | h1
  · exact h j hj h1
  · obtain rfl : j = k := by omega
    exact hc
theorem allTo_all {l : List (List UInt8)} (h : AllTo l l.length) : l.all Pl.okN = true := by
  rw [List.all_eq_true]
  intro c hc
  obtain ⟨k, hk, rfl⟩ := List.getElem_of_mem hc
  exact h k hk hk
theorem allTo_bad {l : List (List UInt8)} {k : Nat} (hk : k < l.length) (hc : Pl.okN l[k] = false) : l.all Pl.okN = false := by
  rw [List.all_eq_false]
  exact ⟨l[k], List.getElem_mem hk, by rw [hc]; simp⟩
/-- The first k of the three rows. -/
def ok3 (s : Pl.Snap) (k : Nat) : Prop := (1 ≤ k → s.c0.all Pl.okN = true) ∧ (2 ≤ k → s.c1.all Pl.okN = true) ∧ (3 ≤ k → s.c2.all Pl.okN = true)
theorem mchk_7 {s : Pl.Snap} (h : Pl.machine s.m = false) : Pl.mchk s = 7 := by unfold Pl.mchk; rw [if_pos h]
theorem mchk_2 {s : Pl.Snap} (h : Pl.machine s.m = true) (h1 : Pl.inR s = false) : Pl.mchk s = 2 := by unfold Pl.mchk; rw [if_neg (by rw [h]; simp), if_pos h1]
theorem mchk_6 {s : Pl.Snap} (h : Pl.machine s.m = true) (h1 : Pl.inR s = true) (h2 : 1000 < s.c0.length + s.c1.length + s.c2.length) : Pl.mchk s = 6 := by unfold Pl.mchk; rw [if_neg (by rw [h]; simp), if_neg (by rw [h1]; simp), if_pos h2]
theorem mchk_3 {s : Pl.Snap} (h : Pl.machine s.m = true) (h1 : Pl.inR s = true) (h2 : ¬ 1000 < s.c0.length + s.c1.length + s.c2.length) (h3 : s.c0.all Pl.okN = false ∨ s.c1.all Pl.okN = false ∨ s.c2.all Pl.okN = false) : Pl.mchk s = 3 := by
  unfold Pl.mchk
  rw [if_neg (by rw [h]; simp), if_neg (by rw [h1]; simp), if_neg h2, if_neg]
  unfold Pl.all3
  rw [List.all_append, List.all_append]
  rcases h3 with h3 | h3 | h3 <;> simp [h3]
theorem mchk_0 {s : Pl.Snap} (h : Pl.machine s.m = true) (h1 : Pl.inR s = true) (h2 : ¬ 1000 < s.c0.length + s.c1.length + s.c2.length) (h3 : ok3 s 3) : Pl.mchk s = 0 := by
  unfold Pl.mchk
  rw [if_neg (by rw [h]; simp), if_neg (by rw [h1]; simp), if_neg h2, if_pos]
  unfold Pl.all3
  rw [List.all_append, List.all_append, h3.1 (by omega), h3.2.1 (by omega), h3.2.2 (by omega)]; rfl
structure SnFit (s : Pl.Snap) : Prop where
  m : s.m.length ≤ 140737488355328
  c0 : ∀ t ∈ s.c0, t.length ≤ 140737488355328
  c1 : ∀ t ∈ s.c1, t.length ≤ 140737488355328
  c2 : ∀ t ∈ s.c2, t.length ≤ 140737488355328
  l0 : s.c0.length ≤ 140737488355328
  l1 : s.c1.length ≤ 140737488355328
  l2 : s.c2.length ≤ 140737488355328
theorem idx3 (x : Cx) : (∀ w, (Instr.index 28 (.agg #[.slice x.A0 x.n0 x.k0, .slice x.A1 x.n1 x.k1, .slice x.A2 x.n2 x.k2]) (.int .i64 0)).run Tryd.prog w = .ok (.slice x.A0 x.n0 x.k0) w) ∧
    (∀ w, (Instr.index 28 (.agg #[.slice x.A0 x.n0 x.k0, .slice x.A1 x.n1 x.k1, .slice x.A2 x.n2 x.k2]) (.int .i64 1)).run Tryd.prog w = .ok (.slice x.A1 x.n1 x.k1) w) ∧
    (∀ w, (Instr.index 28 (.agg #[.slice x.A0 x.n0 x.k0, .slice x.A1 x.n1 x.k1, .slice x.A2 x.n2 x.k2]) (.int .i64 2)).run Tryd.prog w = .ok (.slice x.A2 x.n2 x.k2) w) :=
  ⟨fun _ => by kernel_rfl, fun _ => by kernel_rfl, fun _ => by kernel_rfl⟩
set_option maxRecDepth 100000 in
set_option maxHeartbeats 8000000 in
theorem mcheck_any (s : Pl.Snap) (X : Cx) (w : World) (hok : SnOk w s X) (hfit : SnFit s) : Calls Tryd.prog 36 #[.agg (snL s X).toArray] w (RetB (fun v _ => v = .int .i64 (Pl.mchk s : Int)) w) := by
  obtain ⟨A0, n0, k0, A1, n1, k1, A2, n2, k2⟩ := X
  obtain ⟨E, hE⟩ : ∃ E, Pl.mchk s = E := ⟨_, rfl⟩
  rw [hE]
  have HE := Lib.hid hE; clear hE
  have hl0 : s.c0.length = n0 := by have := (show Rd w 1 A0 n0 (strs s.c0) from hok.s0.1).len1; rwa [strs_len] at this
  have hl1 : s.c1.length = n1 := by have := (show Rd w 1 A1 n1 (strs s.c1) from hok.s1.1).len1; rwa [strs_len] at this
  have hl2 : s.c2.length = n2 := by have := (show Rd w 1 A2 n2 (strs s.c2) from hok.s2.1).len1; rwa [strs_len] at this
  have hn0 : n0 ≤ 140737488355328 := by rw [← hl0]; exact hfit.l0
  have hn1 : n1 ≤ 140737488355328 := by rw [← hl1]; exact hfit.l1
  have hn2 : n2 ≤ 140737488355328 := by rw [← hl2]; exact hfit.l2
  have HL := Lib.hid (And.intro hl0 (And.intro hl1 hl2)); clear hl0 hl1 hl2
  obtain ⟨qm, hqm⟩ : ∃ q, Pl.machine s.m = q := ⟨_, rfl⟩
  have hmc := fun w => mname_any s.m w hfit.m
  rw [hqm] at hmc
  have HMC := Lib.hid (And.intro hmc hqm); clear hmc hqm
  go_enter Tryd.func36, Tryd.ntmps36
  go_upto_region 1 with (fail)
  have hx := snAt_new w s ⟨A0, n0, k0, A1, n1, k1, A2, n2, k2⟩
  have hbV := (Below.refl w.heap.size w).alloc (Nat.le_refl _) (.cells (snL s ⟨A0, n0, k0, A1, n1, k1, A2, n2, k2⟩).toArray 31)
  replace hok := hok.below hbV
  obtain ⟨V, hV⟩ : ∃ V, w.alloc (.cells (snL s ⟨A0, n0, k0, A1, n1, k1, A2, n2, k2⟩).toArray 31) = V := ⟨_, rfl⟩
  rw [hV] at hx hbV hok ⊢
  clear hV
  obtain ⟨-, c0, c1, c2, c3, c4, c5, c6, c7, c8⟩ := hx
  simp only [Nat.zero_add] at c0 c1 c2 c3 c4 c5 c6 c7 c8
  go_wp2_with fail
  (with_reducible refine (HMC.out.1 _).mono ?_)
  rintro e w1 ⟨rfl, rfl⟩
  cases qm with
  | false =>
    have HE2 := Lib.hid (show E = 7 by rw [← HE.out]; exact mchk_7 HMC.out.2)
    go_wp2_with fail
    go_ret
    exact ⟨_, rfl, by rw [HE2.out]; rfl, hbV⟩
  | true =>
  by_cases g0 : 1 ≤ s.n ∧ s.n ≤ 100000000
  rotate_left
  · have HE2 := Lib.hid (show E = 2 by rw [← HE.out]; exact mchk_2 HMC.out.2 (decide_eq_false (by omega)))
    have d0 : decide (1 ≤ s.n ∧ s.n ≤ 100000000) = false := decide_eq_false g0
    go_wp2_with fail
    (with_reducible refine (within_int _ _ _ _).mono ?_)
    rintro e w1 ⟨rfl, rfl⟩
    rw [d0]
    go_wp2_with fail
    go_ret
    exact ⟨_, rfl, by rw [HE2.out]; rfl, hbV⟩
  have d0 : decide (1 ≤ s.n ∧ s.n ≤ 100000000) = true := decide_eq_true g0
  by_cases g1 : 0 ≤ s.at_ ∧ s.at_ ≤ 1000000000000
  rotate_left
  · have HE2 := Lib.hid (show E = 2 by rw [← HE.out]; exact mchk_2 HMC.out.2 (decide_eq_false (by omega)))
    have d1 : decide (0 ≤ s.at_ ∧ s.at_ ≤ 1000000000000) = false := decide_eq_false g1
    go_wp2_with fail
    (with_reducible refine (within_int _ _ _ _).mono ?_)
    rintro e w1 ⟨rfl, rfl⟩
    rw [d0]
    go_wp2_with fail
    (with_reducible refine (within_int64 _ _ _ _).mono ?_)
    rintro e w1 ⟨rfl, rfl⟩
    rw [d1]
    go_wp2_with fail
    go_ret
    exact ⟨_, rfl, by rw [HE2.out]; rfl, hbV⟩
  have d1 : decide (0 ≤ s.at_ ∧ s.at_ ≤ 1000000000000) = true := decide_eq_true g1
  by_cases g2 : 1 ≤ s.pages ∧ s.pages ≤ 64
  rotate_left
  · have HE2 := Lib.hid (show E = 2 by rw [← HE.out]; exact mchk_2 HMC.out.2 (decide_eq_false (by omega)))
    have d2 : decide (1 ≤ s.pages ∧ s.pages ≤ 64) = false := decide_eq_false g2
    go_wp2_with fail
    (with_reducible refine (within_int _ _ _ _).mono ?_)
    rintro e w1 ⟨rfl, rfl⟩
    rw [d0]
    go_wp2_with fail
    (with_reducible refine (within_int64 _ _ _ _).mono ?_)
    rintro e w1 ⟨rfl, rfl⟩
    rw [d1]
    go_wp2_with fail
    (with_reducible refine (within_int _ _ _ _).mono ?_)
    rintro e w1 ⟨rfl, rfl⟩
    rw [d2]
    go_wp2_with fail
    go_ret
    exact ⟨_, rfl, by rw [HE2.out]; rfl, hbV⟩
  have d2 : decide (1 ≤ s.pages ∧ s.pages ≤ 64) = true := decide_eq_true g2
  by_cases g3 : 1 ≤ s.blocks ∧ s.blocks ≤ 256
  rotate_left
  · have HE2 := Lib.hid (show E = 2 by rw [← HE.out]; exact mchk_2 HMC.out.2 (decide_eq_false (by omega)))
    have d3 : decide (1 ≤ s.blocks ∧ s.blocks ≤ 256) = false := decide_eq_false g3
    go_wp2_with fail
    (with_reducible refine (within_int _ _ _ _).mono ?_)
    rintro e w1 ⟨rfl, rfl⟩
    rw [d0]
    go_wp2_with fail
    (with_reducible refine (within_int64 _ _ _ _).mono ?_)
    rintro e w1 ⟨rfl, rfl⟩
    rw [d1]
    go_wp2_with fail
    (with_reducible refine (within_int _ _ _ _).mono ?_)
    rintro e w1 ⟨rfl, rfl⟩
    rw [d2]
    go_wp2_with fail
    (with_reducible refine (within_int _ _ _ _).mono ?_)
    rintro e w1 ⟨rfl, rfl⟩
    rw [d3]
    go_wp2_with fail
    go_ret
    exact ⟨_, rfl, by rw [HE2.out]; rfl, hbV⟩
  have d3 : decide (1 ≤ s.blocks ∧ s.blocks ≤ 256) = true := decide_eq_true g3
  have hir : Pl.inR s = true := decide_eq_true ⟨g0, g1, g2, g3⟩
  have HIR := Lib.hid hir; clear hir
  go_wp2_with fail
  (with_reducible refine (within_int _ _ _ _).mono ?_)
  rintro e w1 ⟨rfl, rfl⟩
  rw [d0]
  go_wp2_with fail
  (with_reducible refine (within_int64 _ _ _ _).mono ?_)
  rintro e w1 ⟨rfl, rfl⟩
  rw [d1]
  go_wp2_with fail
  (with_reducible refine (within_int _ _ _ _).mono ?_)
  rintro e w1 ⟨rfl, rfl⟩
  rw [d2]
  go_wp2_with fail
  (with_reducible refine (within_int _ _ _ _).mono ?_)
  rintro e w1 ⟨rfl, rfl⟩
  rw [d3]
  clear d0 d1 d2 d3 g0 g1 g2 g3
  by_cases hbig : 1000 < n0 + n1 + n2
  · have HE2 := Lib.hid (show E = 6 by rw [← HE.out]; exact mchk_6 HMC.out.2 HIR.out (by rw [HL.out.1, HL.out.2.1, HL.out.2.2]; exact hbig))
    have dl : decide ((1000 : Int) < (n0 : Int) + (n1 : Int) + (n2 : Int)) = true := decide_eq_true (by omega)
    go_wp2_with fail
    go_ret
    exact ⟨_, rfl, by rw [HE2.out]; rfl, hbV⟩
  have dl : decide ((1000 : Int) < (n0 : Int) + (n1 : Int) + (n2 : Int)) = false := decide_eq_false (by omega)
  have HM := Lib.hid (And.intro HMC.out.2 (And.intro HIR.out (show ¬ 1000 < s.c0.length + s.c1.length + s.c2.length by rw [HL.out.1, HL.out.2.1, HL.out.2.2]; exact hbig)))
  go_wp2_with fail
  clear dl c0 c1 c2 c3 c4 c5 c6 c7 c8
  obtain ⟨ix0, ix1, ix2⟩ := idx3 ⟨A0, n0, k0, A1, n1, k1, A2, n2, k2⟩
  go_loopw [52] (fun i wr => ∃ k : Nat, k ≤ 3 ∧ i = .int .i64 (k : Nat) ∧ SnOk wr s ⟨A0, n0, k0, A1, n1, k1, A2, n2, k2⟩ ∧ Below w.heap.size w wr ∧ Hid (ok3 s k)) (fun i _ => 3 - (intOf i).toNat)
  case atStart => exact ⟨0, by omega, rfl, hok, hbV, ⟨fun h => absurd h (by omega), fun h => absurd h (by omega), fun h => absurd h (by omega)⟩⟩
  case round =>
    clear hok hbV
    obtain ⟨k, hk, rfl, hok, hbV, HK⟩ := hrel
    by_cases hk3 : k < 3
    · have h012 : k = 0 ∨ k = 1 ∨ k = 2 := by omega
      rcases h012 with rfl | rfl | rfl
      · have hsl : Rd wr 1 A0 n0 (strs s.c0) := hok.s0.1
        have hnl : s.c0.length = n0 := by have := hsl.len1; rwa [strs_len] at this
        have hnb : n0 ≤ 140737488355328 := by rw [← hnl]; exact hfit.l0
        have HN := Lib.hid hnl; clear hnl
        go_wp2_with fail
        obtain ⟨wo, rfl⟩ : ∃ wo : World, wo = wr := ⟨_, rfl⟩
        go_loopw [57] (fun j wq => ∃ p : Nat, p ≤ n0 ∧ j = .int .i64 (p : Nat) ∧ SnOk wq s ⟨A0, n0, k0, A1, n1, k1, A2, n2, k2⟩ ∧ Below w.heap.size w wq ∧ Hid (AllTo s.c0 p)) (fun j _ => n0 - (intOf j).toNat)
        case atStart => exact ⟨0, by omega, rfl, hok, hbV, (fun j h hj => absurd hj (by omega) : AllTo s.c0 0)⟩
        case round =>
          clear hok hbV hsl
          obtain ⟨p, hp, rfl, hok, hbV, HP⟩ := hrel
          by_cases hpn : p < n0
          · have hpl : p < s.c0.length := by rw [HN.out]; exact hpn
            obtain ⟨b, off, rfl, hlt, r0⟩ := (show Rd wr 1 A0 n0 (strs s.c0) from hok.s0.1).at1 hpn
            rw [strs_get s.c0 p hpl] at r0
            have htl := hfit.c0 _ (List.getElem_mem hpl)
            obtain ⟨t, ht⟩ : ∃ t, s.c0[p] = t := ⟨_, rfl⟩
            rw [ht] at r0 htl
            have hdl := digOf_len (s := t)
            obtain ⟨D, hD⟩ : ∃ D, digOf (Pl.hashOf t) = D := ⟨_, rfl⟩
            have hdo := digOf_one (Pl.hashOf t)
            obtain ⟨q, hq⟩ : ∃ q, Pl.okN t = q := ⟨_, rfl⟩
            have hcall := fun w => of_at t w htl
            rw [hD, hq] at hcall
            rw [hD] at hdl hdo
            have HT := Lib.hid (And.intro ht hq)
            have HC := Lib.hid hcall
            have HD := Lib.hid (And.intro hdl hdo)
            clear ht hq hcall hdl hdo hD
            have hj1 : (0 : Int) ≤ (p : Int) := by omega
            have hj2 : (p : Int) < (n0 : Int) := by omega
            go_wp2_with fail
            (with_reducible refine (HC.out _).mono ?_)
            rintro e w1 ⟨v, rfl, rfl, hb1⟩
            have hok1 := (hok.below hb1).below ((Below.refl _ _).alloc (Nat.le_refl _) (.cells D.toArray 29))
            have hbV1 := (hbV.trans (hb1.mono hbV.size)).alloc (Nat.le_trans hbV.size hb1.size) (.cells D.toArray 29)
            cases q with
            | true =>
              go_wp2_with (with_reducible refine wpList_store_dig rfl _ _ rfl _ D rfl rfl rfl HD.out.1 HD.out.2 ?_)
              go_roundw
              case rel => exact ⟨p + 1, by omega, by go_num, hok1, hbV1, allTo_step HP.out hpl (by rw [HT.out.1]; exact HT.out.2)⟩
              case measure => simp [intOf]; omega
            | false =>
              have HE2 := Lib.hid (show E = 3 by rw [← HE.out]; exact mchk_3 HM.out.1 HM.out.2.1 HM.out.2.2 (.inl (allTo_bad hpl (by rw [HT.out.1]; exact HT.out.2))))
              go_wp2_with (with_reducible refine wpList_store_dig rfl _ _ rfl _ D rfl rfl rfl HD.out.1 HD.out.2 ?_)
              go_ret
              exact ⟨_, rfl, by rw [HE2.out]; rfl, hbV1⟩
          · obtain rfl : p = n0 := by omega
            have HA := Lib.hid (allTo_all (by rw [HN.out]; exact HP.out))
            go_wp2_with fail
            go_roundw
            case rel => exact ⟨1, by omega, by go_num, hok, hbV, ⟨fun _ => HA.out, fun h => absurd h (by omega), fun h => absurd h (by omega)⟩⟩
            case measure => simp [intOf]
      · have hsl : Rd wr 1 A1 n1 (strs s.c1) := hok.s1.1
        have hnl : s.c1.length = n1 := by have := hsl.len1; rwa [strs_len] at this
        have hnb : n1 ≤ 140737488355328 := by rw [← hnl]; exact hfit.l1
        have HN := Lib.hid hnl; clear hnl
        go_wp2_with fail
        obtain ⟨wo, rfl⟩ : ∃ wo : World, wo = wr := ⟨_, rfl⟩
        go_loopw [57] (fun j wq => ∃ p : Nat, p ≤ n1 ∧ j = .int .i64 (p : Nat) ∧ SnOk wq s ⟨A0, n0, k0, A1, n1, k1, A2, n2, k2⟩ ∧ Below w.heap.size w wq ∧ Hid (AllTo s.c1 p)) (fun j _ => n1 - (intOf j).toNat)
        case atStart => exact ⟨0, by omega, rfl, hok, hbV, (fun j h hj => absurd hj (by omega) : AllTo s.c1 0)⟩
        case round =>
          clear hok hbV hsl
          obtain ⟨p, hp, rfl, hok, hbV, HP⟩ := hrel
          by_cases hpn : p < n1
          · have hpl : p < s.c1.length := by rw [HN.out]; exact hpn
            obtain ⟨b, off, rfl, hlt, r0⟩ := (show Rd wr 1 A1 n1 (strs s.c1) from hok.s1.1).at1 hpn
            rw [strs_get s.c1 p hpl] at r0
            have htl := hfit.c1 _ (List.getElem_mem hpl)
            obtain ⟨t, ht⟩ : ∃ t, s.c1[p] = t := ⟨_, rfl⟩
            rw [ht] at r0 htl
            have hdl := digOf_len (s := t)
            obtain ⟨D, hD⟩ : ∃ D, digOf (Pl.hashOf t) = D := ⟨_, rfl⟩
            have hdo := digOf_one (Pl.hashOf t)
            obtain ⟨q, hq⟩ : ∃ q, Pl.okN t = q := ⟨_, rfl⟩
            have hcall := fun w => of_at t w htl
            rw [hD, hq] at hcall
            rw [hD] at hdl hdo
            have HT := Lib.hid (And.intro ht hq)
            have HC := Lib.hid hcall
            have HD := Lib.hid (And.intro hdl hdo)
            clear ht hq hcall hdl hdo hD
            have hj1 : (0 : Int) ≤ (p : Int) := by omega
            have hj2 : (p : Int) < (n1 : Int) := by omega
            go_wp2_with fail
            (with_reducible refine (HC.out _).mono ?_)
            rintro e w1 ⟨v, rfl, rfl, hb1⟩
            have hok1 := (hok.below hb1).below ((Below.refl _ _).alloc (Nat.le_refl _) (.cells D.toArray 29))
            have hbV1 := (hbV.trans (hb1.mono hbV.size)).alloc (Nat.le_trans hbV.size hb1.size) (.cells D.toArray 29)
            cases q with
            | true =>
              go_wp2_with (with_reducible refine wpList_store_dig rfl _ _ rfl _ D rfl rfl rfl HD.out.1 HD.out.2 ?_)
              go_roundw
              case rel => exact ⟨p + 1, by omega, by go_num, hok1, hbV1, allTo_step HP.out hpl (by rw [HT.out.1]; exact HT.out.2)⟩
              case measure => simp [intOf]; omega
            | false =>
              have HE2 := Lib.hid (show E = 3 by rw [← HE.out]; exact mchk_3 HM.out.1 HM.out.2.1 HM.out.2.2 (.inr <| .inl (allTo_bad hpl (by rw [HT.out.1]; exact HT.out.2))))
              go_wp2_with (with_reducible refine wpList_store_dig rfl _ _ rfl _ D rfl rfl rfl HD.out.1 HD.out.2 ?_)
              go_ret
              exact ⟨_, rfl, by rw [HE2.out]; rfl, hbV1⟩
          · obtain rfl : p = n1 := by omega
            have HA := Lib.hid (allTo_all (by rw [HN.out]; exact HP.out))
            go_wp2_with fail
            go_roundw
            case rel => exact ⟨2, by omega, by go_num, hok, hbV, ⟨fun _ => HK.out.1 (by omega), fun _ => HA.out, fun h => absurd h (by omega)⟩⟩
            case measure => simp [intOf]
      · have hsl : Rd wr 1 A2 n2 (strs s.c2) := hok.s2.1
        have hnl : s.c2.length = n2 := by have := hsl.len1; rwa [strs_len] at this
        have hnb : n2 ≤ 140737488355328 := by rw [← hnl]; exact hfit.l2
        have HN := Lib.hid hnl; clear hnl
        go_wp2_with fail
        obtain ⟨wo, rfl⟩ : ∃ wo : World, wo = wr := ⟨_, rfl⟩
        go_loopw [57] (fun j wq => ∃ p : Nat, p ≤ n2 ∧ j = .int .i64 (p : Nat) ∧ SnOk wq s ⟨A0, n0, k0, A1, n1, k1, A2, n2, k2⟩ ∧ Below w.heap.size w wq ∧ Hid (AllTo s.c2 p)) (fun j _ => n2 - (intOf j).toNat)
        case atStart => exact ⟨0, by omega, rfl, hok, hbV, (fun j h hj => absurd hj (by omega) : AllTo s.c2 0)⟩
        case round =>
          clear hok hbV hsl
          obtain ⟨p, hp, rfl, hok, hbV, HP⟩ := hrel
          by_cases hpn : p < n2
          · have hpl : p < s.c2.length := by rw [HN.out]; exact hpn
            obtain ⟨b, off, rfl, hlt, r0⟩ := (show Rd wr 1 A2 n2 (strs s.c2) from hok.s2.1).at1 hpn
            rw [strs_get s.c2 p hpl] at r0
            have htl := hfit.c2 _ (List.getElem_mem hpl)
            obtain ⟨t, ht⟩ : ∃ t, s.c2[p] = t := ⟨_, rfl⟩
            rw [ht] at r0 htl
            have hdl := digOf_len (s := t)
            obtain ⟨D, hD⟩ : ∃ D, digOf (Pl.hashOf t) = D := ⟨_, rfl⟩
            have hdo := digOf_one (Pl.hashOf t)
            obtain ⟨q, hq⟩ : ∃ q, Pl.okN t = q := ⟨_, rfl⟩
            have hcall := fun w => of_at t w htl
            rw [hD, hq] at hcall
            rw [hD] at hdl hdo
            have HT := Lib.hid (And.intro ht hq)
            have HC := Lib.hid hcall
            have HD := Lib.hid (And.intro hdl hdo)
            clear ht hq hcall hdl hdo hD
            have hj1 : (0 : Int) ≤ (p : Int) := by omega
            have hj2 : (p : Int) < (n2 : Int) := by omega
            go_wp2_with fail
            (with_reducible refine (HC.out _).mono ?_)
            rintro e w1 ⟨v, rfl, rfl, hb1⟩
            have hok1 := (hok.below hb1).below ((Below.refl _ _).alloc (Nat.le_refl _) (.cells D.toArray 29))
            have hbV1 := (hbV.trans (hb1.mono hbV.size)).alloc (Nat.le_trans hbV.size hb1.size) (.cells D.toArray 29)
            cases q with
            | true =>
              go_wp2_with (with_reducible refine wpList_store_dig rfl _ _ rfl _ D rfl rfl rfl HD.out.1 HD.out.2 ?_)
              go_roundw
              case rel => exact ⟨p + 1, by omega, by go_num, hok1, hbV1, allTo_step HP.out hpl (by rw [HT.out.1]; exact HT.out.2)⟩
              case measure => simp [intOf]; omega
            | false =>
              have HE2 := Lib.hid (show E = 3 by rw [← HE.out]; exact mchk_3 HM.out.1 HM.out.2.1 HM.out.2.2 (.inr <| .inr (allTo_bad hpl (by rw [HT.out.1]; exact HT.out.2))))
              go_wp2_with (with_reducible refine wpList_store_dig rfl _ _ rfl _ D rfl rfl rfl HD.out.1 HD.out.2 ?_)
              go_ret
              exact ⟨_, rfl, by rw [HE2.out]; rfl, hbV1⟩
          · obtain rfl : p = n2 := by omega
            have HA := Lib.hid (allTo_all (by rw [HN.out]; exact HP.out))
            go_wp2_with fail
            go_roundw
            case rel => exact ⟨3, by omega, by go_num, hok, hbV, ⟨fun _ => HK.out.1 (by omega), fun _ => HK.out.2.1 (by omega), fun _ => HA.out⟩⟩
            case measure => simp [intOf]
    · obtain rfl : k = 3 := by omega
      have HE2 := Lib.hid (show E = 0 by rw [← HE.out]; exact mchk_0 HM.out.1 HM.out.2.1 HM.out.2.2 HK.out)
      go_wp2_with fail
      go_ret
      exact ⟨_, rfl, by rw [HE2.out]; rfl, hbV⟩
end Go.Proofs.YtadoplgmeoghmaaDoor
