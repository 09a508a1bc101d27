/- The walks of wire's empty, bare, Check: why a message may not be. -/
import Derived.Test.YtadoplgmeoghmaaDoorWireM
namespace Go.Proofs.YtadoplgmeoghmaaDoor
open Go.RowKit
set_option linter.unusedVariables false
set_option linter.unusedSimpArgs false
attribute [local go_sem] ba_get ba_cut ba_add
def rowsNil (s : Pl.Snap) (k : Nat) : Prop := ∀ j, j < k → Pl.ck s j = []
theorem zero_sum : Pl.zeroS.sum = List.replicate 32 0 := rfl
theorem zero32_by : zero32 = byC (List.replicate 32 0) := rfl
theorem wpList_build_Z_g {Z : List Value} (hZ : Z = zero32) {ops : Array Oper} {rest : List Oper} {op : Oper} {a : Act} {w : World} {Q : Exit → Act → World → Prop} (hw : Region.wanted op (yielded ops a.tmps) = true) (ho : op.op = .build 29 #[])
    (h : wpList Tryd.prog ops Q rest (a.put op.dst (.agg Z.toArray)) w) : wpList Tryd.prog ops Q (op :: rest) a w :=
  wpList_step fun K hK => by
    rw [if_pos hw]
    unfold Oper.wp execOp
    simp only [ho, Array.map_empty, Sem.run_bind, build_dig, Result.andThen_ok, Sem.run_pure]
    rw [hZ] at h
    exact hK _ _ h
/-- The nine fields are zero. -/
def loneZ (m : Pl.Msg) : Bool := decide (m.data = []) && (decide (m.snap.m = []) && (decide (m.snap.n = 0) && (decide (m.snap.at_ = 0) && (decide (m.snap.clock = 0) && (decide (m.snap.pages = 0) && (decide (m.snap.blocks = 0) && (decide (m.n = 0) && decide (m.why = 0))))))))
theorem empty_lone {m : Pl.Msg} (h : rowsNil m.snap 3) : Pl.emptyM m = (loneZ m && decide (m.snap.sum = List.replicate 32 0)) := by
  have h0 : m.snap.c0 = [] := h 0 (by omega)
  have h1 : m.snap.c1 = [] := h 1 (by omega)
  have h2 : m.snap.c2 = [] := h 2 (by omega)
  rw [Bool.eq_iff_iff]
  unfold Pl.emptyM Pl.plainS Pl.eqS loneZ Pl.zeroS
  simp only [Bool.and_eq_true, decide_eq_true_eq, h0, h1, h2, true_and]
  constructor
  · rintro ⟨a, ⟨b, c, d, e, f, g, i⟩, j, k⟩; exact ⟨⟨a, b, c, d, e, f, g, j, k⟩, i⟩
  · rintro ⟨⟨a, b, c, d, e, f, g, j, k⟩, i⟩; exact ⟨a, ⟨b, c, d, e, f, g, i⟩, j, k⟩
theorem empty_row {m : Pl.Msg} {k : Nat} (hk : k < 3) (h : Pl.ck m.snap k ≠ []) : Pl.emptyM m = false := by
  cases he : Pl.emptyM m
  · rfl
  · unfold Pl.emptyM at he
    simp only [Bool.and_eq_true, Pl.plainS_iff] at he
    rw [he.2.1] at h
    obtain rfl | rfl | rfl : k = 0 ∨ k = 1 ∨ k = 2 := by omega
    all_goals exact absurd rfl h
def loneZL : List Value := [.string ⟨#[]⟩, .string ⟨#[]⟩, .int .i64 0, .int .i64 0, .int .u64 0, .int .i64 0, .int .i64 0, .int .i64 0, .int .i64 0]
set_option maxRecDepth 100000 in
theorem lone_eq (m : Pl.Msg) (W : World) : (Op.equalIn 10000 113 (.agg (loneL m).toArray) (.agg loneZL.toArray)).run Tryd.prog W = .ok (loneZ m) W := by
  rw [run_equalIn_struct W 9999 113 _ _ (by kernel_rfl) (by kernel_rfl)]
  simp only [Program.fieldsOf, Tryd.underlying113]
  simp [Op.eqFields, part, isAgg, run_underlying Tryd.underlying9, run_underlying Tryd.underlying3, run_underlying Tryd.underlying2, run_underlying Tryd.underlying22, run_underlying Tryd.underlying32, loneL, loneZL, Sem.run_bind]
  have es : ∀ (l : List UInt8) (W : World), (Op.equalIn 9999 9 (.string ⟨l.toArray⟩) (.string ⟨#[]⟩)).run Tryd.prog W = .ok (decide (l = [])) W := by
    intro l W
    rw [run_equalIn_string W 9998 9 _ _ Tryd.underlying9, ← beq_toListBytes]
    congr 1
    cases l with
    | nil => rfl
    | cons c l => rfl
  have ei : ∀ (t : TypeId) (k k' : IntKind) (x : Int) (W : World), Tryd.prog.underlying t = some (.int k') → (Op.equalIn 9999 t (.int k x) (.int k 0)).run Tryd.prog W = .ok (decide (x = 0)) W := by
    intro t k k' x W h
    rw [run_equalIn_int W 9998 t k k' _ _ h]
    congr 1
  simp only [es, ei _ _ _ _ _ Tryd.underlying3, ei _ _ _ _ _ Tryd.underlying2, ei _ _ _ _ _ Tryd.underlying22, ei _ _ _ _ _ Tryd.underlying32, Result.andThen_ok]
  unfold loneZ
  generalize decide (m.data = []) = q0
  generalize decide (m.snap.m = []) = q1
  generalize decide (m.snap.n = 0) = q2
  generalize decide (m.snap.at_ = 0) = q3
  generalize decide (m.snap.clock = 0) = q4
  generalize decide (m.snap.pages = 0) = q5
  generalize decide (m.snap.blocks = 0) = q6
  generalize decide (m.n = 0) = q7
  generalize decide (m.why = 0) = q8
  cases q0 <;> cases q1 <;> cases q2 <;> cases q3 <;> cases q4 <;> cases q5 <;> cases q6 <;> cases q7 <;> cases q8 <;> rfl
theorem wpList_build_lone {Z9 : List Value} (hZ : loneZL = Z9) {ops : Array Oper} {rest : List Oper} {op : Oper} {a : Act} {w : World} {Q : Exit → Act → World → Prop} (hgd : op.guard = none) (ho : op.op = .build 113 #[])
    (h : wpList Tryd.prog ops Q rest (a.put op.dst (.agg Z9.toArray)) w) : wpList Tryd.prog ops Q (op :: rest) a w :=
  wpList_plain hgd fun _ hK => by
    have hb : (Instr.build 113 #[]).run Tryd.prog w = .ok (.agg loneZL.toArray) w := run_build w 113 _ _ (by kernel_rfl)
    unfold Oper.wp execOp
    simp only [ho, Array.map_empty, Sem.run_bind, hb, Result.andThen_ok, Sem.run_pure]
    rw [hZ]
    exact hK _ _ h
set_option maxRecDepth 100000 in
set_option maxHeartbeats 4000000 in
theorem empty_any (m : Pl.Msg) (X : Cx) (w : World) (hok : SnOk w m.snap X) (hfit : MgFit m) : Calls Tryd.prog 35 #[.agg (mgL m X).toArray] w (RetB (fun v _ => v = .bool (Pl.emptyM m)) w) := by
  obtain ⟨R, hR⟩ : ∃ R, Pl.emptyM m = R := ⟨_, rfl⟩
  rw [hR]
  have HR := Lib.hid hR; clear hR
  have HF := Lib.hid hfit
  have HSM := Lib.hid hok.sum
  have HI := Lib.hid (info_mg hok)
  have hlone := fun W h => loneOf_any m X W h
  have HLO := Lib.hid hlone; clear hlone
  obtain ⟨Z, hZ⟩ : ∃ Z, Z = zero32 := ⟨_, rfl⟩
  have HZ := Lib.hid hZ; clear hZ
  obtain ⟨LS, hLS⟩ : ∃ L, mgL m X = L := ⟨_, rfl⟩
  rw [hLS]
  have HLS := Lib.hid hLS
  obtain ⟨A0, n0, k0, A1, n1, k1, A2, n2, k2⟩ := X
  go_enter Tryd.func35, Tryd.ntmps35
  go_upto_region 1 with (fail)
  generalize hV : w.alloc _ = V
  have hx : Mg V w.heap.size m ⟨A0, n0, k0, A1, n1, k1, A2, n2, k2⟩ := by rw [← hV, ← hLS]; exact mg_row HSM.out (heap_alloc_new w _)
  have hbV : Below w.heap.size w V := by rw [← hV]; exact (Below.refl _ _).alloc (Nat.le_refl _) _
  have hBV : w.heap.size < V.heap.size := by rw [← hV]; simp
  replace hok := hok.below hbV
  clear hV hLS hfit
  have HX := Lib.hid hx
  obtain ⟨-, -, -, -, -, -, -, -, -, c6, c7, c8, -, -, -, -⟩ := hx
  go_wp2_with fail
  clear c6 c7 c8
  go_loop [8] (fun i => ∃ (k : Nat), k ≤ 3 ∧ i = .int .i64 (k : Nat) ∧ Hid (rowsNil m.snap k)) (fun i => 3 - (intOf i).toNat)
  case atStart => exact ⟨0, by omega, rfl, (fun j hj => absurd hj (by omega) : rowsNil m.snap 0)⟩
  case round =>
    obtain ⟨k, hk, rfl, HK⟩ := hrel
    by_cases hk3 : k < 3
    · obtain ⟨A, n, c, hix, hsl⟩ := three m.snap ⟨A0, n0, k0, A1, n1, k1, A2, n2, k2⟩ hk3
      have hr : Rd V 1 A n (strs (Pl.ck m.snap k)) := (hsl V hok).1
      have hnl : (Pl.ck m.snap k).length = n := by have := hr.len1; rwa [strs_len] at this
      clear hsl hr
      by_cases hn0 : 0 < n
      · have hd : decide ((0 : Int) < (n : Int)) = true := decide_eq_true (by omega)
        have HR2 := Lib.hid (show R = false by rw [← HR.out]; exact empty_row hk3 (by intro h; rw [h] at hnl; simp at hnl; omega))
        clear hnl
        go_wp2_with fail
        go_ret
        exact ⟨_, rfl, by rw [HR2.out]; rfl, hbV⟩
      · have hd : decide ((0 : Int) < (n : Int)) = false := decide_eq_false (by omega)
        have HN := Lib.hid (show Pl.ck m.snap k = [] from List.eq_nil_of_length_eq_zero (by omega)); clear hnl
        go_wp2_with fail
        go_round
        case rel => exact ⟨k + 1, by omega, by go_num, fun j hj => by
          rcases Nat.lt_or_ge j k with h1 | h1
          · exact HK.out j h1
          · obtain rfl : j = k := by omega
            exact HN.out⟩
        case measure => simp [intOf]; omega
    · obtain rfl : k = 3 := by omega
      have hem := empty_lone HK.out
      rw [HR.out] at hem
      have HE := Lib.hid hem; clear hem
      have hra := HX.out.all
      rw [HLS.out] at hra
      have hinf := HI.out
      rw [HLS.out] at hinf
      go_wp2_with (with_reducible refine wpList_load_mid rfl 34 _ rfl w.heap.size 0 rfl LS _ hra Tryd.underlying34 rfl hinf ?_)
      rw [← HLS.out]
      (with_reducible refine (HLO.out _ hok).mono ?_)
      rintro e w1 ⟨v, rfl, rfl, hb1⟩
      rw [HLS.out]
      have hd1 : Below w.heap.size w w1 := hbV.trans (hb1.mono hbV.size)
      have hx1 := HX.out.keep HSM.out hBV hb1
      have hsum := hx1.sum
      have heq := eql_dig HSM.out (show (List.replicate 32 (0 : UInt8)).length = 32 by simp)
      have hinD := info_byl HSM.out
      rw [← zero32_by, ← HZ.out] at heq
      obtain ⟨DS, hDS⟩ : ∃ D, byC m.snap.sum = D := ⟨_, rfl⟩
      obtain ⟨q, hq⟩ : ∃ q, decide (m.snap.sum = List.replicate 32 0) = q := ⟨_, rfl⟩
      rw [hDS] at hsum heq hinD
      rw [hq] at heq
      have HS := Lib.hid (And.intro hsum (And.intro hinD hq)); clear hsum hinD hq hDS hx1
      have hle := fun W => lone_eq m W
      obtain ⟨y, hy⟩ : ∃ y, loneZ m = y := ⟨_, rfl⟩
      rw [hy] at hle
      obtain ⟨L9, hL9⟩ : ∃ L, loneL m = L := ⟨_, rfl⟩
      obtain ⟨Z9, hZ9⟩ : ∃ L, loneZL = L := ⟨_, rfl⟩
      rw [hL9, hZ9] at hle
      have HY := Lib.hid (And.intro hy (And.intro hL9 hZ9)); clear hy hL9 hZ9
      rw [HY.out.2.1]
      have hzl := HY.out.2.2
      cases y with
      | false =>
        have HR2 := Lib.hid (show R = false by rw [HE.out, HY.out.1]; rfl)
        go_wp2_with (with_reducible refine wpList_build_lone hzl rfl rfl ?_)
        go_ret
        exact ⟨_, rfl, by rw [HR2.out]; rfl, hd1⟩
      | true =>
        have HR2 := Lib.hid (show R = q by rw [HE.out, HY.out.1, Bool.true_and]; exact HS.out.2.2)
        go_wp2_with (first
          | (with_reducible refine wpList_build_lone hzl rfl rfl ?_)
          | (with_reducible refine wpList_load_mid_g (by with_unfolding_all rfl) 29 _ rfl w.heap.size 11 rfl DS _ HS.out.1 Tryd.underlying29 rfl HS.out.2.1 ?_)
          | (with_reducible refine wpList_build_Z_g HZ.out (by with_unfolding_all rfl) rfl ?_))
        go_ret
        exact ⟨_, rfl, by rw [HR2.out]; rfl, hd1⟩
end Go.Proofs.YtadoplgmeoghmaaDoor
