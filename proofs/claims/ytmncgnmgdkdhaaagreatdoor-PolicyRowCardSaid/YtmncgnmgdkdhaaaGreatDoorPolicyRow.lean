/- One a day: of one snapshot a day a policy of days alone keeps just the last ones, one of weeks alone the last one of each of the last weeks. For every first day and every count. -/
import Derived.Test.YtmncgnmgdkdhaaaGreatDoorPolLaid
import Derived.Test.YtmncgnmgdkdhaaaGreatDoorShaped
import Derived.Test.YtmncgnmgdkdhaaaGreatDoorTie
import Derived.Test.YtmncgnmgdkdhaaaGreatDoorCards
import Derived.Test.YtmncgnmgdkdhaaaGreatDoorPolBy
import Derived.Test.YtmncgnmgdkdhaaaGreatDoorOpen8
namespace Go.Proofs.YtmncgnmgdkdhaaaGreatDoor
open Go.ChangeShapes Go.WideShapes Go.ChangeAt Go.RowKit
set_option linter.unusedVariables false
set_option linter.unusedSimpArgs false
theorem info_int8 : (Tryz.prog.info? 3).map (fun i => (i.zero, i.size, i.bytes)) = some (some (.int .i64 0), 1, 8) := by kernel_rfl
def natsC (l : List Nat) : List Value := l.map fun (x : Nat) => .int .i64 (x : Int)
theorem natsC_snoc (l : List Nat) (x : Nat) : natsC (l ++ [x]) = natsC l ++ [.int .i64 (x : Int)] := by simp [natsC]
theorem natsC_get {l : List Nat} {i : Nat} (h : i < l.length) : (natsC l)[i]? = some (.int .i64 (l[i] : Int)) := by simp [natsC, h]
theorem rowL_next (f : Int) (k : Nat) : Pl.rowL f (k + 1) = Pl.rowL f k ++ [Pl.rowRf f k] := by unfold Pl.rowL; rw [List.range_succ, List.map_append]; rfl
theorem rowL_len (f : Int) (k : Nat) : (Pl.rowL f k).length = k := by unfold Pl.rowL; simp
def atK (f : Int) (d n k : Nat) : List Nat := (List.range k).filter (Pl.rowW f d n)
theorem atK_yes {f : Int} {d n k : Nat} (h : Pl.rowW f d n k = true) : atK f d n (k + 1) = atK f d n k ++ [k] := by unfold atK; rw [List.range_succ, List.filter_append]; simp [h]
theorem atK_no {f : Int} {d n k : Nat} (h : Pl.rowW f d n k = false) : atK f d n (k + 1) = atK f d n k := by unfold atK; rw [List.range_succ, List.filter_append]; simp [h]
theorem atK_len (f : Int) (d n k : Nat) : (atK f d n k).length ≤ k := by unfold atK; exact Nat.le_trans (List.length_filter_le _ _) (by simp)
theorem atK_all (f : Int) (d n : Nat) : atK f d n d = Pl.atL f d n := rfl
theorem map_at (F : Nat → Bool) {d k : Nat} (h : k < d) : ((List.range d).map F).getD k false = F k := by
  rw [List.getD_eq_getElem?_getD, List.getElem?_map, List.getElem?_range h]; rfl
theorem own_rd1 {w : World} {base n : Nat} {e : TypeId} {v : Value} {xs : List Value} (h : w.ownsRow base e 1 v n xs) : ∃ A c, v = .slice A n c ∧ Rd w 1 A n xs := by
  obtain ⟨A, c, rfl⟩ := own_form' h
  exact ⟨A, c, rfl, Rd.own h⟩
set_option maxRecDepth 100000 in
set_option maxHeartbeats 8000000 in
theorem policyRow_walk (f : Int) (a b : Nat) (w : World) (hf0 : -9223372036854775808 ≤ f) (hf1 : f ≤ 9223372036854775807) (ha : a < 256) (hb : b < 256) (hv : VPol w) :
    Calls Tryz.prog 9 #[.int .i64 f, .int .u8 a, .int .u8 b] w (RetB (fun v _ => v = .bool true) w) := by
  have hal := fun W h => alive_any W h
  obtain ⟨d, hd⟩ : ∃ d : Nat, a % 40 = d := ⟨_, rfl⟩
  obtain ⟨e, he⟩ : ∃ e : Nat, b % 12 = e := ⟨_, rfl⟩
  have hd40 : d < 40 := by omega
  have he12 : e < 12 := by omega
  have t1 : ((a : Int)).tmod 40 = (d : Int) := by rw [← hd]; rfl
  have t2 : ((b : Int)).tmod 12 = (e : Int) := by rw [← he]; rfl
  have wa : IntKind.i64.wrap (a : Int) = (a : Int) := IntWalk.i64_in _ (by omega)
  have wb : IntKind.i64.wrap (b : Int) = (b : Int) := IntWalk.i64_in _ (by omega)
  have wd : IntKind.i64.wrap (d : Int) = (d : Int) := IntWalk.i64_in _ (by omega)
  have we : IntKind.i64.wrap (e : Int) = (e : Int) := IntWalk.i64_in _ (by omega)
  obtain ⟨kp, hkp⟩ : ∃ kp : Nat, 1 + e = kp := ⟨_, rfl⟩
  have hkpI : (1 : Int) + (e : Int) = (kp : Int) := by omega
  have wk : IntKind.i64.wrap (1 + (e : Int)) = (kp : Int) := by rw [hkpI]; exact IntWalk.i64_in _ (by omega)
  have hkp0 : 0 < kp := by omega
  have hkp12 : kp ≤ 12 := by omega
  clear hd he hkp hkpI
  have HH := Lib.hid (And.intro hal hv); clear hal hv
  go_enter Tryz.func9, Tryz.ntmps9
  go_wp2_with fail
  refine (HH.out.1 _ HH.out.2).mono ?_
  rintro e' w1 ⟨v, rfl, rfl, hb1⟩
  by_cases hlo : f < -1000000000
  · go_wp2_with fail
    go_ret
    exact ⟨_, rfl, rfl, hb1⟩
  by_cases hhi : 1000000000 < f
  · go_wp2_with fail
    go_ret
    exact ⟨_, rfl, rfl, hb1⟩
  go_wp2_with fail
  clear t1 t2 wa wb wd we wk
  have hown0 : w1.ownsRow w1.heap.size 39 5 (.slice none 0 0) 0 [] := ⟨rfl, .inl ⟨rfl, rfl⟩⟩
  obtain ⟨B0, hB0⟩ : ∃ B0, w1.heap.size = B0 := ⟨_, rfl⟩
  rw [hB0] at hown0
  have hBw : B0 ≤ w1.heap.size := by omega
  have hw0 : w.heap.size ≤ B0 := by rw [← hB0]; exact hb1.size
  clear hB0
  go_loopw [9, 33] (fun v i wr => ∃ k : Nat, k ≤ d ∧ i = .int .i64 k ∧ wr.ownsRow B0 39 5 v k (rfCs (Pl.rowL f k)) ∧ Below w.heap.size w wr ∧ B0 ≤ wr.heap.size) (fun _ i _ => d - (intOf i).toNat)
  case atStart => exact ⟨0, by omega, rfl, hown0, hb1, hBw⟩
  case round =>
    clear hown0 hb1 hBw
    obtain ⟨k, hk, rfl, hown, hb2, hB⟩ := hrel
    by_cases hkd : k < d
    · obtain ⟨A2, c2', rfl⟩ := own_form' hown
      obtain ⟨z, hz⟩ : ∃ z, ((k : Int) * 37).tmod 1440 = z := ⟨_, rfl⟩
      have hzb := Pl.row_rest k
      rw [hz] at hzb
      have u1 : IntKind.i64.wrap ((k : Int) + 1) = (k : Int) + 1 := IntWalk.i64_in _ (by omega)
      have u2 : IntKind.i64.wrap (f * 1440) = f * 1440 := IntWalk.i64_in _ (by omega)
      have u3 : IntKind.i64.wrap ((k : Int) * 1440) = (k : Int) * 1440 := IntWalk.i64_in _ (by omega)
      have u4 : IntKind.i64.wrap (f * 1440 + (k : Int) * 1440) = f * 1440 + (k : Int) * 1440 := IntWalk.i64_in _ (by omega)
      have u5 : IntKind.i64.wrap ((k : Int) * 37) = (k : Int) * 37 := IntWalk.i64_in _ (by omega)
      have u6 : IntKind.i64.wrap z = z := IntWalk.i64_in _ (by omega)
      have u7 : IntKind.i64.wrap (f * 1440 + (k : Int) * 1440 + z) = f * 1440 + (k : Int) * 1440 + z := IntWalk.i64_in _ (by omega)
      have hrf : Pl.rowRf f k = ⟨[109], (k : Int) + 1, f * 1440 + (k : Int) * 1440 + z, [], 0⟩ := by unfold Pl.rowRf; rw [hz]
      have HK := Lib.hid (And.intro hown (And.intro hb2 hrf)); clear hown hb2 hrf
      go_wp2_with (at_builtin; refine push_many rfl (.tmp 36) (.tmp 49) 32 rfl B0 39 (.agg #[.string ⟨#[]⟩, .int .i64 0, .int .i64 0, .string ⟨#[]⟩, .int .i64 0]) 5 56 Tryz.underlying32 info_ref (by decide) (by decide) _ _ k (rfCs (Pl.rowL f k)) (some ⟨wr.heap.size, 0, none⟩) 1 1 (rfC ⟨[109], (k : Int) + 1, f * 1440 + (k : Int) * 1440 + z, [], 0⟩) rfl (HK.out.1.alloc _) rfl ⟨rfl, fun _ => ⟨wr.heap.size, 0, rfl, by simp, fun j hj => by rw [Nat.zero_add, cell_row _ wr.heap.size j _ _ (heap_alloc_new wr _)]; simp [rfC]⟩⟩ (fun h => by cases h) (rfC_one _) (by omega) (by omega) (by simp; omega) ?_; intro v1 w2 hown1 hb2; obtain ⟨A3, c3', rfl⟩ := own_form' hown1)
      have hb9 : Below B0 wr w2 := ((Below.refl B0 wr).alloc hB _).trans hb2
      refine ⟨⟨k + 1, by omega, by rw [Int.natCast_add]; rfl, ?_, HK.out.2.1.trans (hb9.mono hw0), Nat.le_trans hB hb9.size⟩, by simp [intOf]; omega⟩
      rw [rowL_next, HK.out.2.2, rfCs_snoc]; exact hown1
    · obtain rfl : k = d := by omega
      obtain ⟨A2, c2', hv2, hr2⟩ := own_rd hown
      subst hv2
      have hfit : ∀ x ∈ Pl.rowL f k, RfFit x := by
        intro x hx
        obtain ⟨i, hi, rfl⟩ := Pl.mem_row.1 hx
        have := Pl.row_rest i
        unfold Pl.rowRf RfFit I64
        dsimp only
        refine ⟨⟨⟨by omega, by omega⟩, ⟨by omega, by omega⟩, by decide, by decide⟩, by simp, by simp⟩
      have hk1 := fun W h => keep_in ⟨kp, 0, 0, 0⟩ (Pl.rowL f k) 4611686018427387904 (.slice A2 k c2') W (by rw [rowL_len]; omega) h hfit
      have hk2 := fun W h => keep_in ⟨0, kp, 0, 0⟩ (Pl.rowL f k) 4611686018427387904 (.slice A2 k c2') W (by rw [rowL_len]; omega) h hfit
      rw [Pl.keep_days f k kp _ hkp0 (by omega) (by decide)] at hk1
      rw [Pl.keep_weeks f k kp _ hkp0 (by omega) (by decide)] at hk2
      rw [rowL_len] at hk1 hk2
      dsimp only at hk1 hk2
      have HK := Lib.hid (And.intro hk1 hk2); clear hk1 hk2 hfit hown
      go_wp2_with fail
      refine (HK.out.1 _ ⟨_, _, rfl, hr2⟩).mono ?_
      rintro e' W4 ⟨v, rfl, ⟨ba, rfl, -, hka⟩, hb4⟩
      replace hb2 := hb2.trans (hb4.mono hb2.size)
      replace hr2 := hr2.below hb4
      clear hb4
      go_wp2_with fail
      refine (HK.out.2 _ ⟨_, _, rfl, hr2⟩).mono ?_
      rintro e' W5 ⟨v, rfl, ⟨bb, rfl, -, hkb⟩, hb5⟩
      replace hb2 := hb2.trans (hb5.mono hb2.size)
      replace hka := (hb5.block _ (blk_lt hka)).trans hka
      clear hb5 hr2
      go_wp2_with fail
      have hown0 : W5.ownsRow W5.heap.size 3 1 (.slice none 0 0) 0 [] := ⟨rfl, .inl ⟨rfl, rfl⟩⟩
      obtain ⟨B1, hB1⟩ : ∃ B1, W5.heap.size = B1 := ⟨_, rfl⟩
      rw [hB1] at hown0
      have hB1w : B1 ≤ W5.heap.size := by omega
      have hw1 : w.heap.size ≤ B1 := by rw [← hB1]; exact hb2.size
      have hba : ba < B1 := by rw [← hB1]; exact blk_lt hka
      have hbb : bb < B1 := by rw [← hB1]; exact blk_lt hkb
      clear hB1 HK hB
      go_loopw [13, 72] (fun v i wq => ∃ j : Nat, j ≤ k ∧ i = .int .i64 j ∧ wq.ownsRow B1 3 1 v (atK f k kp j).length (natsC (atK f k kp j)) ∧ wq.heap[ba]? = some (.cells (bools ((List.range k).map fun (i : Nat) => decide ((k : Int) - kp ≤ i))).toArray 4 (0, 0)) ∧ wq.heap[bb]? = some (.cells (bools ((List.range k).map (Pl.rowW f k kp))).toArray 4 (0, 0)) ∧ Below w.heap.size w wq ∧ B1 ≤ wq.heap.size) (fun _ i _ => k - (intOf i).toNat)
      case atStart => exact ⟨0, by omega, rfl, hown0, hka, hkb, hb2, hB1w⟩
      case round =>
        clear hown0 hka hkb hb2 hB1w
        obtain ⟨j, hj, rfl, hown, hka, hkb, hb2, hB⟩ := hrel
        by_cases hjk : j < k
        · obtain ⟨A3, c3', rfl⟩ := own_form' hown
          have hlb : ((List.range k).map (Pl.rowW f k kp)).length = k := by simp
          have hla : ((List.range k).map fun (i : Nat) => decide ((k : Int) - kp ≤ i)).length = k := by simp
          obtain ⟨x, hx⟩ : ∃ x, Pl.rowW f k kp j = x := ⟨_, rfl⟩
          have ca : wr.cell? ⟨ba, j, none⟩ = some (.bool (decide ((k : Int) - kp ≤ j))) := by rw [cell_row wr ba j _ _ hka, bools_get _ j (by rw [hla]; exact hjk), map_at _ hjk]
          have cb : wr.cell? ⟨bb, j, none⟩ = some (.bool x) := by rw [cell_row wr bb j _ _ hkb, bools_get _ j (by rw [hlb]; exact hjk), map_at _ hjk, hx]
          have ws : IntKind.i64.wrap ((k : Int) - (kp : Int)) = (k : Int) - (kp : Int) := IntWalk.i64_in _ (by omega)
          have j0 : (0 : Int) ≤ (j : Int) := by omega
          have j1 : (j : Int) < (k : Int) := by omega
          obtain ⟨y, hy⟩ : ∃ y, decide ((k : Int) - kp ≤ j) = y := ⟨_, rfl⟩
          rw [hy] at ca
          have hll := atK_len f k kp j
          obtain ⟨N, hN⟩ : ∃ N, (atK f k kp j).length = N := ⟨_, rfl⟩
          rw [hN] at hown hll ⊢
          have hyy : (y != y) = false := by simp
          have HR := Lib.hid (And.intro hown (And.intro hka (And.intro hkb (And.intro hb2 (And.intro hx hN))))); clear hown hka hkb hb2 hx hla hlb hN
          rcases x with _ | _
          · go_wp2_with fail
            refine ⟨⟨j + 1, by omega, by rw [Int.natCast_add]; rfl, ?_, HR.out.2.1, HR.out.2.2.1, HR.out.2.2.2.1, hB⟩, by simp [intOf]; omega⟩
            rw [atK_no HR.out.2.2.2.2.1, HR.out.2.2.2.2.2]; exact HR.out.1
          · go_wp2_with (at_builtin; refine push_many rfl (.tmp 89) (.tmp 91) 49 rfl B1 3 (.int .i64 0) 1 8 Tryz.underlying49 info_int8 (by decide) (by decide) _ _ N (natsC (atK f k kp j)) (some ⟨wr.heap.size, 0, none⟩) 1 1 [.int .i64 (j : Int)] rfl (HR.out.1.alloc _) rfl ⟨rfl, fun _ => ⟨wr.heap.size, 0, rfl, by simp, fun j' hj' => by rw [Nat.zero_add, cell_row _ wr.heap.size j' _ _ (heap_alloc_new wr _)]; simp⟩⟩ (fun h => by cases h) (by intro u hu; simp at hu; subst hu; rfl) (by omega) (by omega) (by simp; omega) ?_; intro v1 w2 hown1 hb3; obtain ⟨A4, c4', rfl⟩ := own_form' hown1)
            have hb9 : Below B1 wr w2 := ((Below.refl B1 wr).alloc hB _).trans hb3
            refine ⟨⟨j + 1, by omega, by rw [Int.natCast_add]; rfl, ?_, (hb9.block _ hba).trans HR.out.2.1, (hb9.block _ hbb).trans HR.out.2.2.1, HR.out.2.2.2.1.trans (hb9.mono hw1), Nat.le_trans hB hb9.size⟩, by simp [intOf]; omega⟩
            rw [atK_yes HR.out.2.2.2.2.1, natsC_snoc, List.length_append, HR.out.2.2.2.2.2]; exact hown1
        · obtain rfl : j = k := by omega
          rw [atK_all] at hown
          have hlen := Pl.at_len f j kp
          have hsome : 0 < j → 0 < (Pl.atL f j kp).length := fun h => List.length_pos_of_mem (Pl.at_some f h hkp0)
          obtain ⟨L, hL⟩ : ∃ L, Pl.atL f j kp = L := ⟨_, rfl⟩
          have hnext : ∀ i (h0 : 0 < i) (h1 : i + 1 < L.length), L[i] = L[i - 1] + 7 := by subst hL; exact fun i h0 h1 => Pl.at_next f h0 h1
          have hlast : ∀ i (h0 : i < L.length), i + 1 = L.length → L[i] + 1 = j := by subst hL; exact fun i h0 h1 => Pl.at_last f hkp0 h0 h1
          have hmem : ∀ i (h : i < L.length), L[i] < j := fun i h => by
            have := Pl.mem_at.1 (show L[i] ∈ Pl.atL f j kp by rw [hL]; exact List.getElem_mem h)
            exact this.1
          rw [hL] at hown hlen hsome
          obtain ⟨A3, c3', hv3, hr3⟩ := own_rd1 hown
          subst hv3
          obtain ⟨N, hN⟩ : ∃ N, L.length = N := ⟨_, rfl⟩
          rw [hN] at hr3 hlen hsome ⊢
          have hN40 : N ≤ 12 := by omega
          have HL := Lib.hid (And.intro hsome (And.intro hnext (And.intro hlast (And.intro hmem hN)))); clear hsome hnext hlast hmem hN hown hka hkb hL
          go_wp2_with fail
          go_loopw [96] (fun i wq => ∃ q : Nat, q ≤ N ∧ i = .int .i64 q ∧ Rd wq 1 A3 N (natsC L) ∧ Below w.heap.size w wq) (fun i _ => N - (intOf i).toNat)
          case atStart => exact ⟨0, by omega, rfl, hr3, hb2⟩
          case round =>
            clear hr3 hb2
            obtain ⟨q, hq, rfl, hr3, hb2⟩ := hrel
            by_cases hqN : q < N
            · obtain ⟨b3, off3, hA3, hb3w, hc3⟩ := hr3.all (by omega)
              subst hA3
              have hnl : (natsC L).length = N := by unfold natsC; rw [List.length_map]; exact HL.out.2.2.2.2
              have hqL : q < L.length := by rw [HL.out.2.2.2.2]; exact hqN
              obtain ⟨x, hx⟩ : ∃ x, L[q] = x := ⟨_, rfl⟩
              have hxj : x < j := by rw [← hx]; exact HL.out.2.2.2.1 q hqL
              have cx : wr.cell? ⟨b3, off3 + q, none⟩ = some (.int .i64 (x : Int)) := by rw [hc3 q (by rw [hnl]; exact hqN), natsC_get hqL, hx]
              have q0 : (0 : Int) ≤ (q : Int) := by omega
              have q1 : (q : Int) < (N : Int) := by omega
              have wN : IntKind.i64.wrap ((N : Int) - 1) = (N : Int) - 1 := IntWalk.i64_in _ (by omega)
              have wj : IntKind.i64.wrap ((j : Int) - 1) = (j : Int) - 1 := IntWalk.i64_in _ (by omega)
              have fin : (∃ q_1 : Nat, q_1 ≤ N ∧ Value.int .i64 ((q : Int) + 1) = .int .i64 q_1 ∧ Rd wr 1 (some ⟨b3, off3, none⟩) N (natsC L) ∧ Below w.heap.size w wr) ∧ N - (intOf (.int .i64 ((q : Int) + 1))).toNat < N - (intOf (.int .i64 (q : Int))).toNat :=
                ⟨⟨q + 1, by omega, by rw [Int.natCast_add]; rfl, hr3, hb2⟩, by simp [intOf]; omega⟩
              have HF := Lib.hid fin; clear fin hr3 hb2 hb3w
              by_cases hl : q + 1 = N
              · have hxl : x + 1 = j := by rw [← hx]; exact HL.out.2.2.1 q hqL (by rw [HL.out.2.2.2.2]; exact hl)
                have g1 : ¬ (q : Int) < (N : Int) - 1 := by omega
                have g2 : ((q : Int) == (N : Int) - 1) = true := by rw [beq_iff_eq]; omega
                have g3 : ((x : Int) != (j : Int) - 1) = false := by rw [bne_eq_false_iff_eq]; omega
                clear hc3 hnl hx hxl hl
                by_cases hq0 : q = 0
                · have g0 : ¬ (0 : Int) < (q : Int) := by omega
                  clear hq0
                  go_wp2_with fail
                  exact HF.out
                · have g0 : (0 : Int) < (q : Int) := by omega
                  clear hq0
                  go_wp2_with fail
                  exact HF.out
              · have g1 : (q : Int) < (N : Int) - 1 := by omega
                have g2 : ((q : Int) == (N : Int) - 1) = false := by rw [beq_eq_false_iff_ne]; omega
                by_cases hq0 : q = 0
                · have g0 : ¬ (0 : Int) < (q : Int) := by omega
                  clear hq0 hc3 hnl hx hl
                  go_wp2_with fail
                  exact HF.out
                · have g0 : (0 : Int) < (q : Int) := by omega
                  obtain ⟨z, hz⟩ : ∃ z, L[q - 1] = z := ⟨_, rfl⟩
                  have hxz : x = z + 7 := by rw [← hx, ← hz]; exact HL.out.2.1 q (by omega) (by rw [HL.out.2.2.2.2]; omega)
                  have hp : ((q : Int) - 1) = ((q - 1 : Nat) : Int) := by omega
                  have cz : wr.cell? ⟨b3, off3 + (q - 1), none⟩ = some (.int .i64 (z : Int)) := by rw [hc3 (q - 1) (by rw [hnl]; omega), natsC_get (by omega), hz]
                  obtain ⟨r, hr⟩ : ∃ r : Nat, q - 1 = r := ⟨_, rfl⟩
                  rw [hr] at hp cz
                  have wq2 : IntKind.i64.wrap ((q : Int) - 1) = (r : Int) := by rw [hp]; exact IntWalk.i64_in _ (by omega)
                  have r0 : (0 : Int) ≤ (r : Int) := by omega
                  have r1 : (r : Int) < (N : Int) := by omega
                  have ws : IntKind.i64.wrap ((x : Int) - (z : Int)) = (x : Int) - (z : Int) := IntWalk.i64_in _ (by omega)
                  have g4 : ((x : Int) - (z : Int) != 7) = false := by rw [bne_eq_false_iff_eq]; omega
                  clear hq0 hc3 hnl hx hz hxz hp hr hl
                  go_wp2_with fail
                  exact HF.out
            · obtain rfl : q = N := by omega
              by_cases hj0 : j = 0
              · subst hj0
                go_wp2_with fail
                go_ret
                exact ⟨_, rfl, rfl, hb2⟩
              · have hj0' : ((j : Int) == 0) = false := by rw [beq_eq_false_iff_ne]; omega
                have hq0 := HL.out.1 (by omega)
                go_wp2_with fail
                go_ret
                exact ⟨_, rfl, rfl, hb2⟩
-- FRAME
set_option maxRecDepth 100000 in
theorem policyRow_lifted (os : Os) (started : os.Started) (H : Type) (enc : TypeId × Value → H) :
    ReturnsInHanded {} Tryz.checked os 9 .any (fun w args => (Rows.policyRowSpec.pre enc Tryz.prog Tryz.f9 [] false w args ∧ laidMetH Tryz.prog tabs7 w) ∧ sizedMet enc Tryz.prog Tryz.f9 (OpenSpec.ofChange Rows.policyRowSpec) false w args) (Rows.policyRowSpec.post enc Tryz.prog Tryz.f9 false true false false) := by
  refine handed_and_shaped (C := Tryz.checked) (X := fun w _ => laidMetH Tryz.prog tabs7 w) (fun _ _ _ hh h => h.of_heap hh) own started (by kernel_rfl) Tryz.func9
    (ChangeSpec.witness_shaped (enc := enc) (C := Tryz.checked) (os := os) (X := fun w _ => laidMetH Tryz.prog tabs7 w) false (World.laidAll Tryz.prog os tabs7) #[.int .i64 0, .int .u8 0, .int .u8 0] 8 (World.laidAll_os _ _ _) (door_shaped7 os) (by kernel_rfl) (by kernel_rfl) (by kernel_rfl) (door_met7 os _)) ?_
  intro W base args ds gs before hval0 hW hcnd hsz0 hL hsh _
  have hvars := vpol_of7 hL hsh
  have hval : ∀ (j : Nat) t v, Tryz.f9.params[j]? = some t → args[j]? = some v → Value.okWide Tryz.prog W .any base t v := hval0
  have hW' := hW
  obtain ⟨p, q, hA0, hV, rfl, hfz, hnd⟩ := hW
  have hA : DataW.TrodAll enc Tryz.prog W 0 (fun _ => true) true Tryz.f9.params.toList args.toList ds p := hA0
  have hsz : (DataW.weightsEach Tryz.prog (Tryz.f9.params.toList ++ Rows.policyRowSpec.plain.varTypes Tryz.prog) (ds ++ gs)).all (· ≤ reachBytes) = true := hsz0
  rw [Tryz.params9] at hA hval hsz
  obtain ⟨v0, vs0, d0, ds0, p0, q0, hargs, rfl, rfl, h0, r0⟩ := trodAll_cons hA
  obtain ⟨v1, vs1, d1, ds1, p1, q1, rfl, rfl, rfl, h1, r1⟩ := trodAll_cons r0
  obtain ⟨v2, vs2, d2, ds2, p2, q2, rfl, rfl, rfl, h2, r2⟩ := trodAll_cons r1
  obtain ⟨rfl, rfl, rfl⟩ := trodAll_nil r2
  obtain rfl : args = #[v0, v1, v2] := by cases args; simp_all
  obtain ⟨rfl, rfl⟩ := trodVars_none hV
  have k0 := h0
  have lt0 : ∀ x ∈ p0, x.block < W.heap.size := by obtain ⟨m, hm⟩ := k0; exact DataW.trod_lt m _ _ _ hm
  have hz0 : ∀ m ∈ d0.weights Tryz.prog 2, m ≤ reachBytes := fun m hm => by
    have h1 := List.all_eq_true.1 hsz m (DataW.weights_mem_each (j := 0) rfl rfl m hm)
    simpa using h1
  obtain ⟨x0, rfl, eA0, eB0⟩ := open_l64 (hval 0 2 v0 rfl rfl) h0 hz0
  have k1 := h1
  have lt1 : ∀ x ∈ p1, x.block < W.heap.size := by obtain ⟨m, hm⟩ := k1; exact DataW.trod_lt m _ _ _ hm
  have hz1 : ∀ m ∈ d1.weights Tryz.prog 5, m ≤ reachBytes := fun m hm => by
    have h1 := List.all_eq_true.1 hsz m (DataW.weights_mem_each (j := 1) rfl rfl m hm)
    simpa using h1
  obtain ⟨x1, rfl, eA1⟩ := open_u8 (hval 1 5 v1 rfl rfl) h1 hz1
  have k2 := h2
  have lt2 : ∀ x ∈ p2, x.block < W.heap.size := by obtain ⟨m, hm⟩ := k2; exact DataW.trod_lt m _ _ _ hm
  have hz2 : ∀ m ∈ d2.weights Tryz.prog 5, m ≤ reachBytes := fun m hm => by
    have h1 := List.all_eq_true.1 hsz m (DataW.weights_mem_each (j := 2) rfl rfl m hm)
    simpa using h1
  obtain ⟨x2, rfl, eA2⟩ := open_u8 (hval 2 5 v2 rfl rfl) h2 hz2
  clear hA0 hval0 hsz0
  refine (policyRow_walk x0 x1 x2 W eA0 eB0 eA1 eA2 hvars).mono fun e W' ⟨v, he, hv, bel⟩ => ?_
  subst he hv
  exact ⟨_, rfl, _, _, _, [], _, [], hW', trodAll_mk1 (shut_bool Tryz.underlying4 _), (trodAll_cons_mk (Below.trod laidOut (by kernel_rfl) (of_decide_eq_true (by kernel_rfl)) k0 bel lt0) (trodAll_cons_mk (Below.trod laidOut (by kernel_rfl) (of_decide_eq_true (by kernel_rfl)) k1 bel lt1) (trodAll_cons_mk (Below.trod laidOut (by kernel_rfl) (of_decide_eq_true (by kernel_rfl)) k2 bel lt2) trodAll_mk0))), rfl, bel.frame _, fun h => by cases h⟩

theorem policyRow_row : Rows.PolicyRowSaid :=
  OpenClaim.holds_of_wide 9 Tryz.f9 rfl rfl rfl rfl rfl rfl rfl ⟨rfl, rfl, rfl, rfl, rfl⟩ rfl rfl rfl rfl rfl (by kernel_rfl) Tryz.func9 (by kernel_rfl)
    (of_decide_eq_true (by kernel_rfl)) (by unfold Func.isWrapper; first | (rw [if_pos (by decide +kernel)]; kernel_rfl) | (rw [if_neg (by decide +kernel)]; exact ⟨rfl, rfl⟩))
    (fun os started H enc _ => policyRow_lifted os started H enc)

theorem policyRow_holds : Rows.PolicyRowCardSaid :=
  Claim7.holds_tied_plain_at .later [] [.data, .data, .data, .data, .sentinel, .sentinel, .pinned] true (true, "02b003ade427d62ed0908f33fa3ad860fd25ad3502c2ef17bff12e515b4c93bc") true
    policyRow_row (fun _ h => by cases h) (by kernel_rfl) (fun _ h => by cases h) policyRow_row_tie rfl ⟨rfl, rfl⟩ (by kernel_rfl) rfl
    (fun f fn hf hfn => by
      obtain rfl : f = 9 := Option.some.inj ((show Tryz.prog.funcNamed "hibernacle/hibernaclelaw49.PolicyRow" = some 9 by kernel_rfl).symm.trans hf) |>.symm
      obtain rfl : fn = Tryz.f9 := (Option.some.inj (Tryz.func9.symm.trans hfn)).symm
      exact ⟨by kernel_rfl, fun j t ht => by
        rw [Tryz.params9] at ht
        rcases j with _ | _ | _ | _ | j
        all_goals first
          | (simp at ht; done)
          | (have h3 := Option.some.inj ht; subst h3; exact (show Tryz.prog.wantsStandIn _ = false by kernel_rfl))⟩)
    (by kernel_rfl)
#print axioms policyRow_holds
end Go.Proofs.YtmncgnmgdkdhaaaGreatDoor
