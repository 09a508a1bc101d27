/- The walks of the document's Great and Same of snapshots. -/
import Derived.Test.YtommlolhpaeioaaDoorMf3W
import Derived.Test.YtommlolhpaeioaaDoorHashW
import Derived.Deep.QuietTactic
import Derived.BigQuiet
namespace Go.Proofs.YtommlolhpaeioaaDoor
open Go.RowKit
set_option linter.unusedVariables false
set_option linter.unusedSimpArgs false
attribute [local go_sem] ba_get ba_cut ba_add
/-- What the document's Great counts, with 64 bits. -/
def Pl.greatN (s : Pl.Snap) : Int := wrap64 (Pl.totN s : Int)
theorem upto_sum (s : Pl.Snap) {k : Nat} (h : k < 3) : sumLen (Pl.upto s (k + 1)) = sumLen (Pl.upto s k) + sumLen (Pl.ck s k) := by rw [upto_succ s h, sumLen_append]
theorem wrap_in (x : Int) : -9223372036854775808 ≤ wrap64 x ∧ wrap64 x ≤ 9223372036854775807 := by unfold wrap64; omega
theorem wrap_two (a : Int) (b : Int) : wrap64 (wrap64 a + b) = wrap64 (a + b) := by unfold wrap64; omega
set_option maxRecDepth 100000 in
set_option maxHeartbeats 4000000 in
theorem great41_any (s : Pl.Snap) (X : Cx) (w : World) (hok : SnOk w s X) (hfit : SnFit s) : Calls Tryd.prog 22 #[.agg (snL s X).toArray] w (RetB (fun v _ => v = .int .i64 (if 10000 < Pl.greatN s then 1 else 0)) w) := by
  obtain ⟨A0, n0, k0, A1, n1, k1, A2, n2, k2⟩ := X
  have hm := hfit.m
  obtain ⟨G, hG⟩ : ∃ G : Int, (if 10000 < Pl.greatN s then 1 else 0) = G := ⟨_, rfl⟩
  rw [hG]
  have HG := Lib.hid hG; clear hG
  obtain ⟨m, hml⟩ : ∃ m, s.m.length = m := ⟨_, rfl⟩
  have HF := Lib.hid (And.intro hfit hml); clear hfit
  go_enter Tryd.func22, Tryd.ntmps22
  go_upto_region 1 with (fail)
  generalize hV : w.alloc _ = V
  have hx : SnAt V w.heap.size 0 s ⟨A0, n0, k0, A1, n1, k1, A2, n2, k2⟩ := by rw [← hV]; exact snAt_new w s _
  have hbV : Below w.heap.size w V := by rw [← hV]; exact (Below.refl _ _).alloc (Nat.le_refl _) _
  replace hok := hok.below hbV
  clear hV
  obtain ⟨-, c0, c1, c2, c3, c4, c5, c6, c7, c8⟩ := hx
  simp only [Nat.zero_add] at c0 c1 c2 c3 c4 c5 c6 c7 c8
  go_wp2_with fail
  clear c0 c1 c2 c3 c4 c5 c6 c7 c8
  go_loop [3, 13] (fun v i => ∃ (k : Nat) (q : Int), k ≤ 3 ∧ i = .int .i64 (k : Nat) ∧ v = .int .i64 q ∧ Hid (q = wrap64 ((m + sumLen (Pl.upto s k) : Nat) : Int))) (fun _ i => 3 - (intOf i).toNat)
  case atStart => exact ⟨0, (m : Int), by omega, rfl, rfl, by show _ = _; rw [upto_zero]; simp [sumLen]; unfold wrap64; omega⟩
  case round =>
    obtain ⟨k, q, hk, rfl, rfl, HX⟩ := hrel
    by_cases hk3 : k < 3
    · obtain ⟨A, n, c, hix, hsl⟩ := three s ⟨A0, n0, k0, A1, n1, k1, A2, n2, k2⟩ hk3
      have hfit := ck_fit HF.out.1 k
      have hup := upto_sum s hk3
      have hr : Rd V 1 A n (strs (Pl.ck s k)) := (hsl V hok).1
      have hnl : (Pl.ck s k).length = n := by have := hr.len1; rwa [strs_len] at this
      obtain ⟨L, hL⟩ : ∃ L, Pl.ck s k = L := ⟨_, rfl⟩
      rw [hL] at hfit hup hnl hr
      clear hsl
      have HL := Lib.hid (And.intro hfit (And.intro hup hnl)); clear hfit hup hnl hL
      have hn : n ≤ 140737488355328 := by rw [← HL.out.2.2]; exact HL.out.1.1
      go_wp2_with fail
      go_loop [3, 18] (fun v i => ∃ (j : Nat) (q : Int), j ≤ n ∧ i = .int .i64 (j : Nat) ∧ v = .int .i64 q ∧ Hid (q = wrap64 ((m + sumLen (Pl.upto s k) + sumLen (L.take j) : Nat) : Int))) (fun _ i => n - (intOf i).toNat)
      case atStart => exact ⟨0, q, by omega, rfl, rfl, by have := HX.out; simpa [Hid, sumLen] using this⟩
      case round =>
        obtain ⟨j, q, hj, rfl, rfl, HY⟩ := hrel
        by_cases hjn : j < n
        · have hjl : j < L.length := by rw [HL.out.2.2]; exact hjn
          obtain ⟨b1, o1, rfl, -, hc1⟩ := hr.at1 hjn
          rw [strs_get L j hjl] at hc1
          have hst := sumLen_take L j hjl
          have hxl := HL.out.1.2 _ (List.getElem_mem hjl)
          obtain ⟨x, hx⟩ : ∃ x, L[j] = x := ⟨_, rfl⟩
          rw [hx] at hc1 hst hxl
          have HS := Lib.hid hst; clear hst hx
          go_wp2_with fail
          go_round
          case rel => exact ⟨j + 1, wrap64 (q + ((x.length : Int) + 1)), by omega, by go_num, rfl, by show _ = _; rw [HY.out, wrap_two, HS.out]; congr 1; omega⟩
          case measure => simp [intOf]; omega
        · obtain rfl : n = j := by omega
          go_wp2_with fail
          go_round
          case rel =>
            refine ⟨k + 1, q, by omega, by go_num, rfl, ?_⟩
            have h1 := HY.out
            rw [List.take_of_length_le (by rw [HL.out.2.2]; omega), Nat.add_assoc, ← HL.out.2.1] at h1
            exact h1
          case measure => simp [intOf]; omega
    · obtain rfl : k = 3 := by omega
      have hq : q = Pl.greatN s := by rw [HX.out, upto_all]; unfold Pl.greatN Pl.totN; rw [HF.out.2]
      clear HX
      by_cases hg : 10000 < q
      · have hd : decide (10000 < q) = true := decide_eq_true hg
        have HQ := Lib.hid (And.intro hq hg); clear hq hg
        go_wp2_with fail
        go_ret
        exact ⟨_, rfl, by rw [← HG.out, ← HQ.out.1, if_pos HQ.out.2]; rfl, hbV⟩
      · have hd : decide (10000 < q) = false := decide_eq_false hg
        have HQ := Lib.hid (And.intro hq hg); clear hq hg
        go_wp2_with fail
        go_ret
        exact ⟨_, rfl, by rw [← HG.out, ← HQ.out.1, if_neg (by have := HQ.out.2; omega)]; rfl, hbV⟩
theorem wpList_load_mid_g {P : Program} {ops : Array Oper} {rest : List Oper} {op : Oper} {a : Act} {w : World} {Q : Exit → Act → World → Prop} (hw : Region.wanted op (yielded ops a.tmps) = true) (ty : TypeId) (x : Operand) (ho : op.op = .load ty x)
    (b o : Nat) (hx : a.eval x = .pointer (some ⟨b, o, none⟩)) (cs : List Value) (d : TypeDesc) (hc : w.rangeAt b o cs)
    (hu : P.underlying ty = some d) (hd : d.isRow = true) (hi : (P.info? ty).map (·.size) = some cs.length)
    (h : wpList P ops Q rest (a.put op.dst (.agg cs.toArray)) w) : wpList P ops Q (op :: rest) a w :=
  wpList_step fun K hK => by rw [if_pos hw]; exact wp_load_mid ty x ho b o hx cs d hc hu hd hi (hK _ _ h)
theorem three_cell {V : World} {B : Nat} {s : Pl.Snap} {X : Cx} (hx : SnAt V B 0 s X) {k : Nat} (hk : k < 3) : ∃ A n c, V.cell? ⟨B, 6 + k, none⟩ = some (.slice A n c) ∧ (∀ w, SnOk w s X → SlAt w 1 A n c (strs (Pl.ck s k))) := by
  obtain ⟨-, c0, c1, c2, c3, c4, c5, c6, c7, c8⟩ := hx
  simp only [Nat.zero_add] at c6 c7 c8
  obtain rfl | rfl | rfl : k = 0 ∨ k = 1 ∨ k = 2 := by omega
  · exact ⟨_, _, _, c6, fun w h => h.s0⟩
  · exact ⟨_, _, _, c7, fun w h => h.s1⟩
  · exact ⟨_, _, _, c8, fun w h => h.s2⟩
theorem retq_quiet {f : FuncId} {args : Array Value} {w : World} {n : Nat} {v : Value} (h : ∀ w', (∃ n, w' = w.drewN n) → Calls Tryd.prog f args w' (RetQ v w')) : Calls Tryd.prog f args (w.drewN n) fun e w'' => e = .returned v ∧ ∃ m, w'' = w.drewN m :=
  (h _ ⟨n, rfl⟩).mono fun _ _ ⟨he, m, hw⟩ => ⟨he, n + m, by rw [hw, World.drewN_drewN]⟩
theorem snAt_sum {V : World} {B : Nat} {s : Pl.Snap} {X : Cx} (hx : SnAt V B 0 s X) : V.rangeAt B 9 (byC s.sum) := fun j v hv => by
  have := hx.all (9 + j) v (by simpa [snL, Nat.add_comm] using hv)
  rwa [Nat.zero_add] at this
def SameTo (a b : Pl.Snap) (k : Nat) : Prop := ∀ j, j < k → Pl.ck a j = Pl.ck b j
theorem sameTo_step {a b : Pl.Snap} {k : Nat} (h : SameTo a b k) (hk : Pl.ck a k = Pl.ck b k) : SameTo a b (k + 1) := fun j hj => by
  rcases Nat.lt_or_ge j k with h1 | h1
  · exact h j h1
  · obtain rfl : j = k := by omega
    exact hk
theorem eqS_no {a b : Pl.Snap} {k : Nat} (hk : k < 3) (h : Pl.ck a k ≠ Pl.ck b k) : Pl.eqS a b = false := by
  cases he : Pl.eqS a b
  · rfl
  · rw [Pl.eqS_iff] at he
    exact absurd (by rw [he]) h
/-- The fields that aren't rows of names. -/
def Pl.lone (a b : Pl.Snap) : Bool := decide (a.m = b.m) && (decide (a.n = b.n) && (decide (a.at_ = b.at_) && (decide (a.clock = b.clock) && (decide (a.pages = b.pages) && (decide (a.blocks = b.blocks) && decide (a.sum = b.sum))))))
theorem eqS_lone {a b : Pl.Snap} (h : SameTo a b 3) : Pl.eqS a b = Pl.lone a b := by
  have h0 : a.c0 = b.c0 := h 0 (by omega)
  have h1 : a.c1 = b.c1 := h 1 (by omega)
  have h2 : a.c2 = b.c2 := h 2 (by omega)
  unfold Pl.eqS Pl.lone
  simp [h0, h1, h2]
set_option maxRecDepth 100000 in
set_option maxHeartbeats 4000000 in
theorem same41_any (a b : Pl.Snap) (X Y : Cx) (w : World) (ha : SnOk w a X) (hb : SnOk w b Y) (fa : SnFit a) (fb : SnFit b) : Calls Tryd.prog 36 #[.agg (snL a X).toArray, .agg (snL b Y).toArray] w (RetB (fun v _ => v = .bool (Pl.eqS a b)) w) := by
  obtain ⟨R, hR⟩ : ∃ R, Pl.eqS a b = R := ⟨_, rfl⟩
  rw [hR]
  have HR := Lib.hid hR; clear hR
  have HF := Lib.hid (And.intro fa fb); clear fa fb
  obtain ⟨LA, hLA⟩ : ∃ LA, snL a X = LA := ⟨_, rfl⟩
  obtain ⟨LB, hLB⟩ : ∃ LB, snL b Y = LB := ⟨_, rfl⟩
  rw [hLA, hLB]
  go_enter Tryd.func36, Tryd.ntmps36
  go_upto_region 1 with (fail)
  generalize hV : (w.alloc _).alloc _ = V
  have hx : SnAt V w.heap.size 0 a X := by rw [← hV, ← hLA]; exact (snAt_new w a X).below (by simp) ((Below.refl _ _).alloc (Nat.le_refl _) _)
  have hy : SnAt V (w.heap.size + 1) 0 b Y := by
    rw [← hV, ← hLB]
    have := snAt_new (w.alloc (.cells LA.toArray 28)) b Y
    simpa using this
  have hbV : Below w.heap.size w V := by rw [← hV]; exact ((Below.refl _ _).alloc (Nat.le_refl _) _).alloc (by simp) _
  replace ha := ha.below hbV
  replace hb := hb.below hbV
  clear hV hLA hLB
  have HX := Lib.hid (And.intro hx hy); clear hx hy
  go_wp2_with fail
  go_loopw [5] (fun i wr => ∃ (k : Nat), k ≤ 3 ∧ i = .int .i64 (k : Nat) ∧ Hid (SnAt wr w.heap.size 0 a X ∧ SnAt wr (w.heap.size + 1) 0 b Y) ∧ SnOk wr a X ∧ SnOk wr b Y ∧ Below w.heap.size w wr ∧ Hid (SameTo a b k)) (fun i _ => 3 - (intOf i).toNat)
  case atStart => exact ⟨0, by omega, rfl, HX, ha, hb, hbV, (fun j hj => absurd hj (by omega) : SameTo a b 0)⟩
  case round =>
    clear HX ha hb hbV
    obtain ⟨k, hk, rfl, HX, ha, hb, hbV, HS⟩ := hrel
    by_cases hk3 : k < 3
    · obtain ⟨A, n, c, hc1, hs1⟩ := three_cell HX.out.1 hk3
      obtain ⟨A', n', c', hc2, hs2⟩ := three_cell HX.out.2 hk3
      have hr1 : Rd wr 1 A n (strs (Pl.ck a k)) := (hs1 wr ha).1
      have hr2 : Rd wr 1 A' n' (strs (Pl.ck b k)) := (hs2 wr hb).1
      have hn1 : n ≤ 140737488355328 := by have h1 := hr1.len1; rw [strs_len] at h1; rw [← h1]; exact (ck_fit HF.out.1 k).1
      have hn2 : n' ≤ 140737488355328 := by have h1 := hr2.len1; rw [strs_len] at h1; rw [← h1]; exact (ck_fit HF.out.2 k).1
      obtain ⟨Q, hQ⟩ : ∃ Q, decide (Pl.ck a k = Pl.ck b k) = Q := ⟨_, rfl⟩
      have hcall : ∀ w', (∃ n, w' = wr.drewN n) → Calls Tryd.prog 27 #[.slice A n c, .slice A' n' c'] w' (RetQ (.bool Q) w') := by
        rintro w' ⟨m, rfl⟩
        rw [← hQ]
        exact same_any A A' n n' c c' _ _ _ (hr1.drewN m) (hr2.drewN m) (by omega) (by omega)
      have HC := Lib.hid (And.intro hcall hQ); clear hcall hQ hs1 hs2 hr1 hr2 hn1 hn2
      have hj1 : (0 : Int) ≤ (k : Int) := by omega
      have hj2 : (k : Int) < 3 := by omega
      cases Q with
      | true =>
        go_wp2_with fail
        go_quiet ((go_at_call 27; exact retq_quiet HC.out.1))
        go_wp2_with fail
        go_roundw
        case rel => exact ⟨k + 1, by omega, by go_num, ⟨HX.out.1.keep (fun _ => rfl), HX.out.2.keep (fun _ => rfl)⟩, ha.below (below_drewN (Below.refl _ _) _), hb.below (below_drewN (Below.refl _ _) _), below_drewN hbV _, sameTo_step HS.out (of_decide_eq_true HC.out.2)⟩
        case measure => simp [intOf]; omega
      | false =>
        have HR2 := Lib.hid (show R = false by rw [← HR.out]; exact eqS_no hk3 (of_decide_eq_false HC.out.2))
        go_wp2_with fail
        go_quiet ((go_at_call 27; exact retq_quiet HC.out.1))
        go_wp2_with fail
        go_ret
        exact ⟨_, rfl, by rw [HR2.out]; rfl, below_drewN hbV _⟩
    · obtain rfl : k = 3 := by omega
      have hlone := eqS_lone HS.out
      rw [HR.out] at hlone
      obtain ⟨-, c0, c1, c2, c3, c4, c5, -, -, -⟩ := HX.out.1
      obtain ⟨-, d0, d1, d2, d3, d4, d5, -, -, -⟩ := HX.out.2
      simp only [Nat.zero_add] at c0 c1 c2 c3 c4 c5 d0 d1 d2 d3 d4 d5
      have hra := snAt_sum HX.out.1
      have hrb := snAt_sum HX.out.2
      have hla := ha.sum
      have hlb := hb.sum
      have heq := eql_dig hla hlb
      obtain ⟨am, an, aa, ac, ap, ab, a0, a1, a2, asu⟩ := a
      obtain ⟨bm, bn, ba, bc, bp, bb, b0, b1, b2, bsu⟩ := b
      simp only [Pl.lone] at hlone
      simp only at c0 c1 c2 c3 c4 c5 d0 d1 d2 d3 d4 d5 hra hrb hla hlb heq
      have HLL := Lib.hid (And.intro (And.intro hla (info_byl hla)) (And.intro hlb (info_byl hlb)))
      obtain ⟨DA, hDA⟩ : ∃ D, byC asu = D := ⟨_, rfl⟩
      obtain ⟨DB, hDB⟩ : ∃ D, byC bsu = D := ⟨_, rfl⟩
      have hia := HLL.out.1.2
      have hib := HLL.out.2.2
      rw [hDA] at hra heq hia
      rw [hDB] at hrb heq hib
      have HIA := Lib.hid (And.intro hra hia)
      have HIB := Lib.hid (And.intro hrb hib)
      clear hra hrb hia hib hla hlb hDA hDB
      have HL := Lib.hid hlone; clear hlone
      by_cases e0 : am = bm
      rotate_left
      · have t0 : (am == bm) = false := beq_eq_false_iff_ne.2 e0
        have HR2 := Lib.hid (show R = false by rw [HL.out]; simp [e0])
        go_wp2_with fail
        go_ret
        exact ⟨_, rfl, by rw [HR2.out]; rfl, hbV⟩
      have t0 : (am == bm) = true := beq_iff_eq.2 e0
      by_cases e1 : an = bn
      rotate_left
      · have t1 : (an == bn) = false := beq_eq_false_iff_ne.2 e1
        have HR2 := Lib.hid (show R = false by rw [HL.out]; simp [e1])
        go_wp2_with fail
        go_ret
        exact ⟨_, rfl, by rw [HR2.out]; rfl, hbV⟩
      have t1 : (an == bn) = true := beq_iff_eq.2 e1
      by_cases e2 : aa = ba
      rotate_left
      · have t2 : (aa == ba) = false := beq_eq_false_iff_ne.2 e2
        have HR2 := Lib.hid (show R = false by rw [HL.out]; simp [e2])
        go_wp2_with fail
        go_ret
        exact ⟨_, rfl, by rw [HR2.out]; rfl, hbV⟩
      have t2 : (aa == ba) = true := beq_iff_eq.2 e2
      by_cases e3 : ac = bc
      rotate_left
      · have t3 : (ac == bc) = false := beq_eq_false_iff_ne.2 e3
        have HR2 := Lib.hid (show R = false by rw [HL.out]; simp [e3])
        go_wp2_with fail
        go_ret
        exact ⟨_, rfl, by rw [HR2.out]; rfl, hbV⟩
      have t3 : (ac == bc) = true := beq_iff_eq.2 e3
      by_cases e4 : ap = bp
      rotate_left
      · have t4 : (ap == bp) = false := beq_eq_false_iff_ne.2 e4
        have HR2 := Lib.hid (show R = false by rw [HL.out]; simp [e4])
        go_wp2_with fail
        go_ret
        exact ⟨_, rfl, by rw [HR2.out]; rfl, hbV⟩
      have t4 : (ap == bp) = true := beq_iff_eq.2 e4
      by_cases e5 : ab = bb
      rotate_left
      · have t5 : (ab == bb) = false := beq_eq_false_iff_ne.2 e5
        have HR2 := Lib.hid (show R = false by rw [HL.out]; simp [e5])
        go_wp2_with fail
        go_ret
        exact ⟨_, rfl, by rw [HR2.out]; rfl, hbV⟩
      have t5 : (ab == bb) = true := beq_iff_eq.2 e5
      have HR2 := Lib.hid (show decide (asu = bsu) = R by rw [HL.out]; simp [e0, e1, e2, e3, e4, e5])
      obtain ⟨Q, hQ⟩ : ∃ Q, decide (asu = bsu) = Q := ⟨_, rfl⟩
      rw [hQ] at heq
      have HQ := Lib.hid hQ; clear hQ e0 e1 e2 e3 e4 e5
      go_wp2_with (first | (with_reducible refine wpList_load_mid_g (by with_unfolding_all rfl) 26 _ rfl w.heap.size 9 rfl DA _ HIA.out.1 Tryd.underlying26 rfl HIA.out.2 ?_) | (with_reducible refine wpList_load_mid_g (by with_unfolding_all rfl) 26 _ rfl (w.heap.size + 1) 9 rfl DB _ HIB.out.1 Tryd.underlying26 rfl HIB.out.2 ?_))
      go_ret
      exact ⟨_, rfl, by rw [← HR2.out, HQ.out]; rfl, hbV⟩
end Go.Proofs.YtommlolhpaeioaaDoor
