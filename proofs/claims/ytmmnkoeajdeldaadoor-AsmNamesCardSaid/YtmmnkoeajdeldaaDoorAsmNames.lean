/- AsmNames: what a jump to a name, and la, make. -/
import Derived.Test.YtmmnkoeajdeldaaDoorShaped
import Derived.Test.YtmmnkoeajdeldaaDoorTie
import Derived.Test.YtmmnkoeajdeldaaDoorCards
import Derived.Test.YtmmnkoeajdeldaaDoorAsNm
import Derived.Test.YtmmnkoeajdeldaaDoorIsaR2
import Derived.Test.YtmmnkoeajdeldaaDoorAsS
import Derived.Test.YtmmnkoeajdeldaaDoorAsLaid
import Derived.Test.YtmmnkoeajdeldaaDoorOpen8
namespace Go.Proofs.YtmmnkoeajdeldaaDoor
open Go.ChangeShapes Go.WideShapes Go.ChangeAt Go.RowKit
set_option linter.unusedVariables false
set_option linter.unusedSimpArgs false
attribute [local go_sem] ba_get ba_cut ba_add fld_k fld_s fld_n
def adds (k : Nat) : List UInt8 := Pl.joinN (List.replicate k Pl.addL)
def syss (k : Nat) : List UInt8 := Pl.joinN (List.replicate k Pl.sysL)
theorem joinN_snoc (l : List UInt8) : ∀ k, Pl.joinN (List.replicate (k + 1) l) = Pl.joinN (List.replicate k l) ++ (l ++ [10]) := fun k => by
  rw [List.replicate_succ', Pl.joinN_app]; simp [Pl.joinN]
theorem rep_len (l : List UInt8) (k : Nat) : (Pl.joinN (List.replicate k l)).length = k * (l.length + 1) := by
  rw [Pl.joinN_len]; simp [Nat.mul_succ]
theorem nm_back (n m : Nat) : Pl.joinN (Pl.linesNm n m true) = (adds n ++ (Pl.goalL ++ [10]) ++ syss m) ++ (Pl.beqL ++ 10 :: (Pl.laL ++ [10])) := by
  unfold Pl.linesNm adds syss
  rw [if_pos rfl, Pl.joinN_app]
  show _ ++ (Pl.goalL ++ 10 :: Pl.joinN (_ ++ _)) = _
  rw [Pl.joinN_app]
  simp [Pl.joinN]
theorem nm_ahead (n m : Nat) : Pl.joinN (Pl.linesNm n m false) = (adds n ++ (Pl.beqL ++ 10 :: (Pl.laL ++ [10])) ++ syss m) ++ (Pl.goalL ++ [10]) := by
  unfold Pl.linesNm adds syss
  rw [if_neg (by decide), Pl.joinN_app]
  show _ ++ (Pl.beqL ++ 10 :: (Pl.laL ++ 10 :: Pl.joinN (_ ++ _))) = _
  rw [Pl.joinN_app]
  simp [Pl.joinN]
set_option maxRecDepth 100000 in
set_option maxHeartbeats 4000000 in
theorem asmNames_walk (a b : Nat) (back : Bool) (w : World) (ha : a < 256) (hb : b < 256) (hv : VLaw w) :
    Calls Tryd.prog 3 #[.int .u8 (a : Int), .int .u8 (b : Int), .bool back] w (RetB (fun v _ => v = .bool true) w) := by
  have HV := Lib.hid hv.asm
  clear hv
  go_enter Tryd.func3, Tryd.ntmps3
  go_upto_region 2 with (fail)
  obtain ⟨n, hn⟩ : ∃ n, a % 60 = n := ⟨_, rfl⟩
  obtain ⟨m, hm⟩ : ∃ m, b % 60 = m := ⟨_, rfl⟩
  rw [show (a : Int) % 60 = (n : Int) by omega, show (b : Int) % 60 = (m : Int) by omega]
  have hn6 : n < 60 := by omega
  have hm6 : m < 60 := by omega
  clear hn hm
  go_wp2_with fail
  go_loopw [9, 30] (fun s i wr => ∃ (k : Nat), k ≤ n ∧ i = .int .i64 (k : Int) ∧ s = .string ⟨(adds k).toArray⟩ ∧ wr = w) (fun _ i _ => n - (intOf i).toNat)
  case atStart => exact ⟨0, by omega, rfl, rfl, rfl⟩
  case round =>
    obtain ⟨k, hk, rfl, rfl, rfl⟩ := hrel
    obtain ⟨w, rfl⟩ : ∃ V, V = wr := ⟨_, rfl⟩
    by_cases hkn : k < n
    · have hst : adds (k + 1) = adds k ++ (Pl.addL ++ [10]) := joinN_snoc _ k
      have hl : (adds k).length = k * 15 := rep_len _ k
      obtain ⟨X, hX⟩ : ∃ X, adds k = X := ⟨_, rfl⟩
      rw [hX] at hst hl ⊢
      have HS := Lib.hid hst
      clear hst hX
      go_wp2_with fail
      exact ⟨⟨k + 1, by omega, ret_i (by omega), by rw [HS.out]; rfl, trivial⟩, by simp only [intOf]; omega⟩
    · have hkn2 : k = n := by omega
      subst hkn2
      have hl : (adds k).length = k * 15 := rep_len _ k
      obtain ⟨X, hX⟩ : ∃ X, adds k = X := ⟨_, rfl⟩
      rw [hX] at hl ⊢
      have HX := Lib.hid hX
      clear hX
      cases back with
      | true =>
        obtain ⟨n, rfl⟩ : ∃ n, n = k := ⟨_, rfl⟩
        go_wp2_with fail
        go_loopw [9, 43] (fun s i wr => ∃ (k : Nat), k ≤ m ∧ i = .int .i64 (k : Int) ∧ s = .string ⟨((X ++ [103, 111, 97, 108, 58, 10]) ++ syss k).toArray⟩ ∧ wr = w) (fun _ i _ => m - (intOf i).toNat)
        case atStart => exact ⟨0, by omega, rfl, by simp [syss, Pl.joinN], rfl⟩
        case round =>
          obtain ⟨k, hk, rfl, rfl, rfl⟩ := hrel
          obtain ⟨w, rfl⟩ : ∃ V, V = wr := ⟨_, rfl⟩
          by_cases hkm : k < m
          · have hst : syss (k + 1) = syss k ++ (Pl.sysL ++ [10]) := joinN_snoc _ k
            have hl2 : (syss k).length = k * 6 := rep_len _ k
            obtain ⟨Y, hY⟩ : ∃ Y, syss k = Y := ⟨_, rfl⟩
            rw [hY] at hst hl2 ⊢
            obtain ⟨Z, hZ⟩ : ∃ Z, (X ++ [103, 111, 97, 108, 58, 10]) ++ Y = Z := ⟨_, rfl⟩
            have hl3 : Z.length ≤ 2000 := by rw [← hZ]; simp; omega
            rw [hZ]
            have HS := Lib.hid (And.intro hst hZ)
            clear hst hY hZ
            go_wp2_with fail
            refine ⟨⟨k + 1, by omega, ret_i (by omega), ?_, trivial⟩, by simp only [intOf]; omega⟩
            rw [HS.out.1, ← HS.out.2, ← List.append_assoc]
            rfl
          · have hkm2 : k = m := by omega
            subst hkm2
            obtain ⟨m, rfl⟩ : ∃ m, m = k := ⟨_, rfl⟩
            have hl2 : (syss m).length = m * 6 := rep_len _ m
            obtain ⟨Y, hY⟩ : ∃ Y, syss m = Y := ⟨_, rfl⟩
            rw [hY] at hl2 ⊢
            obtain ⟨Z, hZ⟩ : ∃ Z, (X ++ [103, 111, 97, 108, 58, 10]) ++ Y = Z := ⟨_, rfl⟩
            have hl3 : Z.length ≤ 2000 := by rw [← hZ]; simp; omega
            rw [hZ]
            have hT : Z ++ [98, 101, 113, 32, 114, 52, 44, 32, 114, 53, 44, 32, 103, 111, 97, 108, 10, 108, 97, 32, 114, 54, 44, 32, 103, 111, 97, 108, 10] = Pl.joinN (Pl.linesNm n m true) := by
              rw [nm_back, HX.out, hY, ← hZ]
              rfl
            obtain ⟨hmk, hml⟩ := Pl.mkNm n m true (by omega) (by omega)
            rw [← hT] at hmk
            have HZ := Lib.hid hmk
            clear hmk hml hT hZ hY
            go_wp2_with fail
            have hmk := HZ.out
            obtain ⟨T, hTz⟩ : ∃ T, Z ++ [98, 101, 113, 32, 114, 52, 44, 32, 114, 53, 44, 32, 103, 111, 97, 108, 10, 108, 97, 32, 114, 54, 44, 32, 103, 111, 97, 108, 10] = T := ⟨_, rfl⟩
            rw [hTz] at hmk ⊢
            have hTl : T.length ≤ 2100 := by rw [← hTz]; simp; omega
            (with_reducible refine (make_any T w (by omega) HV.out).mono ?_)
            rintro x w1 ⟨hb1, h⟩
            rw [hmk] at h
            obtain ⟨tA, c, rfl, hown⟩ := h
            have hLl := Pl.wordsNm_len n m true
            have hLa := Pl.wordsNm_at n m true
            obtain ⟨L, hL⟩ : ∃ L, Pl.wordsNm n m true = L := ⟨_, rfl⟩
            rw [hL] at hLl hLa hown ⊢
            have e1 : xeV tA c ⟨L, [], 0, 0⟩ = .agg #[.slice tA (n + m + 3) c, .string ⟨#[]⟩, .int .i64 0, .int .u32 0] := by unfold xeV; rw [hLl]; rfl
            rw [e1]
            change w1.ownsRow w.heap.size 23 1 (.slice tA L.length c) L.length (w32s L) at hown
            rw [hLl] at hown
            have HL := Lib.hid (And.intro hLl (And.intro hLa (And.intro hown hb1)))
            clear hLl hLa hown hb1 e1 hL hmk hTz
            go_upto_region 16 with (fail)
            obtain ⟨w2, hw2⟩ : ∃ V, w1.alloc (.cells #[.slice tA (n + m + 3) c, .string ⟨#[]⟩, .int .i64 0, .int .u32 0] 25) = V := ⟨_, rfl⟩
            obtain ⟨B, hB⟩ : ∃ B, w1.heap.size = B := ⟨_, rfl⟩
            have hz2 : w2.heap[B]? = some (.cells #[.slice tA (n + m + 3) c, .string ⟨#[]⟩, .int .i64 0, .int .u32 0] 25 (0, 0)) := by rw [← hw2, ← hB]; exact heap_alloc_new _ _
            have hb2 : Below w1.heap.size w1 w2 := by rw [← hw2]; exact (Below.refl _ _).alloc (Nat.le_refl _) _
            rw [hw2, hB]
            clear hw2
            have hbb2 := HL.out.2.2.2.trans (hb2.mono HL.out.2.2.2.size)
            have H2 := Lib.hid (And.intro hz2 (And.intro (own_below HL.out.2.2.1 hb2) hbb2))
            clear hz2 hb2 hbb2
            have r1 := fun W => renc_any ⟨25, 4, 5, 0, ((n : Int) - ((n : Int) + (m : Int)) - 1)⟩ W ⟨of_decide_eq_true rfl, of_decide_eq_true rfl, of_decide_eq_true rfl, of_decide_eq_true rfl, by show -2147483648 ≤ ((n : Int) - ((n : Int) + (m : Int)) - 1); omega, by show ((n : Int) - ((n : Int) + (m : Int)) - 1) ≤ 2147483647; omega⟩
            have r2 := fun W => renc_any ⟨19, 6, 0, 0, 0⟩ W ⟨of_decide_eq_true rfl, of_decide_eq_true rfl, of_decide_eq_true rfl, of_decide_eq_true rfl, of_decide_eq_true rfl, of_decide_eq_true rfl⟩
            have r3 := fun W => renc_any ⟨16, 6, 6, 0, (4 * (n : Int))⟩ W ⟨of_decide_eq_true rfl, of_decide_eq_true rfl, of_decide_eq_true rfl, of_decide_eq_true rfl, by show -2147483648 ≤ (4 * (n : Int)); omega, by show (4 * (n : Int)) ≤ 2147483647; omega⟩
            rw [encV_ok (Pl.encE_beq (v := ((n : Int) - ((n : Int) + (m : Int)) - 1)) (by omega) (by omega))] at r1
            rw [encV_ok (x := ⟨19, 6, 0, 0, 0⟩) rfl] at r2
            rw [encV_ok (Pl.encE_ori (v := (4 * (n : Int))) (by omega) (by omega))] at r3
            obtain ⟨V1, hV1⟩ : ∃ V, Pl.wordOf ⟨25, 4, 5, 0, ((n : Int) - ((n : Int) + (m : Int)) - 1)⟩ = V := ⟨_, rfl⟩
            obtain ⟨V2, hV2⟩ : ∃ V, Pl.wordOf ⟨19, 6, 0, 0, 0⟩ = V := ⟨_, rfl⟩
            obtain ⟨V3, hV3⟩ : ∃ V, Pl.wordOf ⟨16, 6, 6, 0, (4 * (n : Int))⟩ = V := ⟨_, rfl⟩
            rw [hV1] at r1
            rw [hV2] at r2
            rw [hV3] at r3
            have hthree : Pl.threeNm n (n + m) = [V1, V2, V3] := by
              unfold Pl.threeNm
              rw [hV2, ← hV1, ← hV3]
              simp only [Int.natCast_add, Int.natCast_mul]
              rfl
            have hL0 := HL.out.2.1 0 (by decide)
            have hL1 := HL.out.2.1 1 (by decide)
            have hL2 := HL.out.2.1 2 (by decide)
            rw [show Pl.goNm n m true = n from rfl, show Pl.atNm n m true = (n + m) from rfl, hthree] at hL0 hL1 hL2
            have HR := Lib.hid (And.intro r1 (And.intro r2 r3))
            have HLL := Lib.hid (And.intro hL0 (And.intro hL1 hL2))
            clear r1 r2 r3 hV1 hV2 hV3 hthree hL0 hL1 hL2
            go_wp2_with fail
            refine (HR.out.1 _).mono ?_
            rintro x w3 ⟨v, rfl, rfl, hb3⟩
            go_wp2_with fail
            refine (HR.out.2.1 _).mono ?_
            rintro x w4 ⟨v, rfl, rfl, hb4⟩
            go_wp2_with fail
            refine (HR.out.2.2 _).mono ?_
            rintro x w5 ⟨v, rfl, rfl, hb5⟩
            have hb25 := (hb3.trans (hb4.mono hb3.size))
            have hb25' := hb25.trans (hb5.mono hb25.size)
            have hbw5 := H2.out.2.2.trans (hb25'.mono H2.out.2.2.size)
            have hv5 := HV.out.below hbw5
            have H5 := Lib.hid (And.intro hv5 (And.intro hb25' hbw5))
            clear hb3 hb4 hb5 hb25 hb25' hbw5 hv5
            go_wp2_with fail
            (with_reducible refine (fixed_any _ H5.out.1).mono ?_)
            rintro x w6 ⟨v, rfl, rfl, hb6⟩
            have hb26 := H5.out.2.1.trans (hb6.mono H5.out.2.1.size)
            have z6 := (hb26.block B (blk_lt H2.out.1)).trans H2.out.1
            have x0 := (xeA_cells z6).1
            have ho6 := own_below H2.out.2.1 hb26
            obtain ⟨b, off, rfl, hbl, hcell⟩ := (Rd.own ho6).all (by omega)
            have hc0 := hcell (n + m) (by unfold w32s; rw [List.length_map, HL.out.1]; omega)
            have hc1 := hcell ((n + m) + 1) (by unfold w32s; rw [List.length_map, HL.out.1]; omega)
            have hc2 := hcell ((n + m) + 2) (by unfold w32s; rw [List.length_map, HL.out.1]; omega)
            unfold w32s at hc0 hc1 hc2
            rw [List.getElem?_map] at hc0 hc1 hc2
            rw [show L[(n + m)]? = some V1 from HLL.out.1] at hc0
            rw [HLL.out.2.1] at hc1
            rw [HLL.out.2.2] at hc2
            simp only [Option.map_some, List.getElem?_cons_succ, List.getElem?_cons_zero] at hc0 hc1 hc2
            have HB6 := Lib.hid hb6
            clear hb6 hb26 z6 ho6 hcell
            go_wp2_with fail
            go_ret
            exact ⟨_, rfl, rfl, H5.out.2.2.trans (HB6.out.mono H5.out.2.2.size)⟩
      | false =>
        obtain ⟨n, rfl⟩ : ∃ n, n = k := ⟨_, rfl⟩
        go_wp2_with fail
        go_loopw [9, 43] (fun s i wr => ∃ (k : Nat), k ≤ m ∧ i = .int .i64 (k : Int) ∧ s = .string ⟨((X ++ [98, 101, 113, 32, 114, 52, 44, 32, 114, 53, 44, 32, 103, 111, 97, 108, 10, 108, 97, 32, 114, 54, 44, 32, 103, 111, 97, 108, 10]) ++ syss k).toArray⟩ ∧ wr = w) (fun _ i _ => m - (intOf i).toNat)
        case atStart => exact ⟨0, by omega, rfl, by simp [syss, Pl.joinN], rfl⟩
        case round =>
          obtain ⟨k, hk, rfl, rfl, rfl⟩ := hrel
          obtain ⟨w, rfl⟩ : ∃ V, V = wr := ⟨_, rfl⟩
          by_cases hkm : k < m
          · have hst : syss (k + 1) = syss k ++ (Pl.sysL ++ [10]) := joinN_snoc _ k
            have hl2 : (syss k).length = k * 6 := rep_len _ k
            obtain ⟨Y, hY⟩ : ∃ Y, syss k = Y := ⟨_, rfl⟩
            rw [hY] at hst hl2 ⊢
            obtain ⟨Z, hZ⟩ : ∃ Z, (X ++ [98, 101, 113, 32, 114, 52, 44, 32, 114, 53, 44, 32, 103, 111, 97, 108, 10, 108, 97, 32, 114, 54, 44, 32, 103, 111, 97, 108, 10]) ++ Y = Z := ⟨_, rfl⟩
            have hl3 : Z.length ≤ 2000 := by rw [← hZ]; simp; omega
            rw [hZ]
            have HS := Lib.hid (And.intro hst hZ)
            clear hst hY hZ
            go_wp2_with fail
            refine ⟨⟨k + 1, by omega, ret_i (by omega), ?_, trivial⟩, by simp only [intOf]; omega⟩
            rw [HS.out.1, ← HS.out.2, ← List.append_assoc]
            rfl
          · have hkm2 : k = m := by omega
            subst hkm2
            obtain ⟨m, rfl⟩ : ∃ m, m = k := ⟨_, rfl⟩
            have hl2 : (syss m).length = m * 6 := rep_len _ m
            obtain ⟨Y, hY⟩ : ∃ Y, syss m = Y := ⟨_, rfl⟩
            rw [hY] at hl2 ⊢
            obtain ⟨Z, hZ⟩ : ∃ Z, (X ++ [98, 101, 113, 32, 114, 52, 44, 32, 114, 53, 44, 32, 103, 111, 97, 108, 10, 108, 97, 32, 114, 54, 44, 32, 103, 111, 97, 108, 10]) ++ Y = Z := ⟨_, rfl⟩
            have hl3 : Z.length ≤ 2000 := by rw [← hZ]; simp; omega
            rw [hZ]
            have hT : Z ++ [103, 111, 97, 108, 58, 10] = Pl.joinN (Pl.linesNm n m false) := by
              rw [nm_ahead, HX.out, hY, ← hZ]
              rfl
            obtain ⟨hmk, hml⟩ := Pl.mkNm n m false (by omega) (by omega)
            rw [← hT] at hmk
            have HZ := Lib.hid hmk
            clear hmk hml hT hZ hY
            go_wp2_with fail
            have hmk := HZ.out
            obtain ⟨T, hTz⟩ : ∃ T, Z ++ [103, 111, 97, 108, 58, 10] = T := ⟨_, rfl⟩
            rw [hTz] at hmk ⊢
            have hTl : T.length ≤ 2100 := by rw [← hTz]; simp; omega
            (with_reducible refine (make_any T w (by omega) HV.out).mono ?_)
            rintro x w1 ⟨hb1, h⟩
            rw [hmk] at h
            obtain ⟨tA, c, rfl, hown⟩ := h
            have hLl := Pl.wordsNm_len n m false
            have hLa := Pl.wordsNm_at n m false
            obtain ⟨L, hL⟩ : ∃ L, Pl.wordsNm n m false = L := ⟨_, rfl⟩
            rw [hL] at hLl hLa hown ⊢
            have e1 : xeV tA c ⟨L, [], 0, 0⟩ = .agg #[.slice tA (n + m + 3) c, .string ⟨#[]⟩, .int .i64 0, .int .u32 0] := by unfold xeV; rw [hLl]; rfl
            rw [e1]
            change w1.ownsRow w.heap.size 23 1 (.slice tA L.length c) L.length (w32s L) at hown
            rw [hLl] at hown
            have HL := Lib.hid (And.intro hLl (And.intro hLa (And.intro hown hb1)))
            clear hLl hLa hown hb1 e1 hL hmk hTz
            go_upto_region 16 with (fail)
            obtain ⟨w2, hw2⟩ : ∃ V, w1.alloc (.cells #[.slice tA (n + m + 3) c, .string ⟨#[]⟩, .int .i64 0, .int .u32 0] 25) = V := ⟨_, rfl⟩
            obtain ⟨B, hB⟩ : ∃ B, w1.heap.size = B := ⟨_, rfl⟩
            have hz2 : w2.heap[B]? = some (.cells #[.slice tA (n + m + 3) c, .string ⟨#[]⟩, .int .i64 0, .int .u32 0] 25 (0, 0)) := by rw [← hw2, ← hB]; exact heap_alloc_new _ _
            have hb2 : Below w1.heap.size w1 w2 := by rw [← hw2]; exact (Below.refl _ _).alloc (Nat.le_refl _) _
            rw [hw2, hB]
            clear hw2
            have hbb2 := HL.out.2.2.2.trans (hb2.mono HL.out.2.2.2.size)
            have H2 := Lib.hid (And.intro hz2 (And.intro (own_below HL.out.2.2.1 hb2) hbb2))
            clear hz2 hb2 hbb2
            have r1 := fun W => renc_any ⟨25, 4, 5, 0, ((n : Int) + 3 + (m : Int) - (n : Int) - 1)⟩ W ⟨of_decide_eq_true rfl, of_decide_eq_true rfl, of_decide_eq_true rfl, of_decide_eq_true rfl, by show -2147483648 ≤ ((n : Int) + 3 + (m : Int) - (n : Int) - 1); omega, by show ((n : Int) + 3 + (m : Int) - (n : Int) - 1) ≤ 2147483647; omega⟩
            have r2 := fun W => renc_any ⟨19, 6, 0, 0, 0⟩ W ⟨of_decide_eq_true rfl, of_decide_eq_true rfl, of_decide_eq_true rfl, of_decide_eq_true rfl, of_decide_eq_true rfl, of_decide_eq_true rfl⟩
            have r3 := fun W => renc_any ⟨16, 6, 6, 0, (4 * ((n : Int) + 3 + (m : Int)))⟩ W ⟨of_decide_eq_true rfl, of_decide_eq_true rfl, of_decide_eq_true rfl, of_decide_eq_true rfl, by show -2147483648 ≤ (4 * ((n : Int) + 3 + (m : Int))); omega, by show (4 * ((n : Int) + 3 + (m : Int))) ≤ 2147483647; omega⟩
            rw [encV_ok (Pl.encE_beq (v := ((n : Int) + 3 + (m : Int) - (n : Int) - 1)) (by omega) (by omega))] at r1
            rw [encV_ok (x := ⟨19, 6, 0, 0, 0⟩) rfl] at r2
            rw [encV_ok (Pl.encE_ori (v := (4 * ((n : Int) + 3 + (m : Int)))) (by omega) (by omega))] at r3
            obtain ⟨V1, hV1⟩ : ∃ V, Pl.wordOf ⟨25, 4, 5, 0, ((n : Int) + 3 + (m : Int) - (n : Int) - 1)⟩ = V := ⟨_, rfl⟩
            obtain ⟨V2, hV2⟩ : ∃ V, Pl.wordOf ⟨19, 6, 0, 0, 0⟩ = V := ⟨_, rfl⟩
            obtain ⟨V3, hV3⟩ : ∃ V, Pl.wordOf ⟨16, 6, 6, 0, (4 * ((n : Int) + 3 + (m : Int)))⟩ = V := ⟨_, rfl⟩
            rw [hV1] at r1
            rw [hV2] at r2
            rw [hV3] at r3
            have hthree : Pl.threeNm (n + 3 + m) n = [V1, V2, V3] := by
              unfold Pl.threeNm
              rw [hV2, ← hV1, ← hV3]
              simp only [Int.natCast_add, Int.natCast_mul]
              rfl
            have hL0 := HL.out.2.1 0 (by decide)
            have hL1 := HL.out.2.1 1 (by decide)
            have hL2 := HL.out.2.1 2 (by decide)
            rw [show Pl.goNm n m false = (n + 3 + m) from rfl, show Pl.atNm n m false = n from rfl, hthree] at hL0 hL1 hL2
            have HR := Lib.hid (And.intro r1 (And.intro r2 r3))
            have HLL := Lib.hid (And.intro hL0 (And.intro hL1 hL2))
            clear r1 r2 r3 hV1 hV2 hV3 hthree hL0 hL1 hL2
            go_wp2_with fail
            refine (HR.out.1 _).mono ?_
            rintro x w3 ⟨v, rfl, rfl, hb3⟩
            go_wp2_with fail
            refine (HR.out.2.1 _).mono ?_
            rintro x w4 ⟨v, rfl, rfl, hb4⟩
            go_wp2_with fail
            refine (HR.out.2.2 _).mono ?_
            rintro x w5 ⟨v, rfl, rfl, hb5⟩
            have hb25 := (hb3.trans (hb4.mono hb3.size))
            have hb25' := hb25.trans (hb5.mono hb25.size)
            have hbw5 := H2.out.2.2.trans (hb25'.mono H2.out.2.2.size)
            have hv5 := HV.out.below hbw5
            have H5 := Lib.hid (And.intro hv5 (And.intro hb25' hbw5))
            clear hb3 hb4 hb5 hb25 hb25' hbw5 hv5
            go_wp2_with fail
            (with_reducible refine (fixed_any _ H5.out.1).mono ?_)
            rintro x w6 ⟨v, rfl, rfl, hb6⟩
            have hb26 := H5.out.2.1.trans (hb6.mono H5.out.2.1.size)
            have z6 := (hb26.block B (blk_lt H2.out.1)).trans H2.out.1
            have x0 := (xeA_cells z6).1
            have ho6 := own_below H2.out.2.1 hb26
            obtain ⟨b, off, rfl, hbl, hcell⟩ := (Rd.own ho6).all (by omega)
            have hc0 := hcell n (by unfold w32s; rw [List.length_map, HL.out.1]; omega)
            have hc1 := hcell (n + 1) (by unfold w32s; rw [List.length_map, HL.out.1]; omega)
            have hc2 := hcell (n + 2) (by unfold w32s; rw [List.length_map, HL.out.1]; omega)
            unfold w32s at hc0 hc1 hc2
            rw [List.getElem?_map] at hc0 hc1 hc2
            rw [show L[n]? = some V1 from HLL.out.1] at hc0
            rw [HLL.out.2.1] at hc1
            rw [HLL.out.2.2] at hc2
            simp only [Option.map_some, List.getElem?_cons_succ, List.getElem?_cons_zero] at hc0 hc1 hc2
            have HB6 := Lib.hid hb6
            clear hb6 hb26 z6 ho6 hcell
            go_wp2_with fail
            go_ret
            exact ⟨_, rfl, rfl, H5.out.2.2.trans (HB6.out.mono H5.out.2.2.size)⟩
-- FRAME
set_option maxRecDepth 100000 in
theorem asmNames_lifted (os : Os) (started : os.Started) (H : Type) (enc : TypeId × Value → H) :
    ReturnsInHanded {} Tryd.checked os 3 .any (fun w args => (Rows.asmNamesSpec.pre enc Tryd.prog Tryd.f3 [] false w args ∧ laidMetH Tryd.prog tabs8 w) ∧ sizedMet enc Tryd.prog Tryd.f3 (OpenSpec.ofChange Rows.asmNamesSpec) false w args) (Rows.asmNamesSpec.post enc Tryd.prog Tryd.f3 false true false false) := by
  refine handed_and_shaped (C := Tryd.checked) (X := fun w _ => laidMetH Tryd.prog tabs8 w) (fun _ _ _ hh h => h.of_heap hh) own started (by kernel_rfl) Tryd.func3
    (ChangeSpec.witness_shaped (enc := enc) (C := Tryd.checked) (os := os) (X := fun w _ => laidMetH Tryd.prog tabs8 w) false (World.laidAll Tryd.prog os tabs8) #[.int .u8 0, .int .u8 0, .bool false] 8 (World.laidAll_os _ _ _) (door_shaped8 os) (by kernel_rfl) (by kernel_rfl) (by kernel_rfl) (door_met8 os _)) ?_
  intro W base args ds gs before hval0 hW hcnd hsz0 hL hsh _
  have hvars := vlaw_of8 hL hsh
  have hval : ∀ (j : Nat) t v, Tryd.f3.params[j]? = some t → args[j]? = some v → Value.okWide Tryd.prog W .any base t v := hval0
  have hW' := hW
  obtain ⟨p, q, hA0, hV, rfl, hfz, hnd⟩ := hW
  have hA : DataW.TrodAll enc Tryd.prog W 0 (fun _ => true) true Tryd.f3.params.toList args.toList ds p := hA0
  have hsz : (DataW.weightsEach Tryd.prog (Tryd.f3.params.toList ++ Rows.asmNamesSpec.plain.varTypes Tryd.prog) (ds ++ gs)).all (· ≤ reachBytes) = true := hsz0
  rw [Tryd.params3] at hA hval hsz
  obtain ⟨v0, vs0, d0, ds0, p0, q0, hargs, rfl, rfl, h0, r0⟩ := trodAll_cons hA
  obtain ⟨v1, vs1, d1, ds1, p1, q1, rfl, rfl, rfl, h1, r1⟩ := trodAll_cons r0
  obtain ⟨v2, vs2, d2, ds2, p2, q2, rfl, rfl, rfl, h2, r2⟩ := trodAll_cons r1
  obtain ⟨rfl, rfl, rfl⟩ := trodAll_nil r2
  obtain rfl : args = #[v0, v1, v2] := by cases args; simp_all
  obtain ⟨rfl, rfl⟩ := trodVars_none hV
  have k0 := h0
  have lt0 : ∀ x ∈ p0, x.block < W.heap.size := by obtain ⟨m, hm⟩ := k0; exact DataW.trod_lt m _ _ _ hm
  have hz0 : ∀ m ∈ d0.weights Tryd.prog 5, m ≤ reachBytes := fun m hm => by
    have h1 := List.all_eq_true.1 hsz m (DataW.weights_mem_each (j := 0) rfl rfl m hm)
    simpa using h1
  obtain ⟨x0, rfl, eA0⟩ := open_u8 (hval 0 5 v0 rfl rfl) h0 hz0
  have k1 := h1
  have lt1 : ∀ x ∈ p1, x.block < W.heap.size := by obtain ⟨m, hm⟩ := k1; exact DataW.trod_lt m _ _ _ hm
  have hz1 : ∀ m ∈ d1.weights Tryd.prog 5, m ≤ reachBytes := fun m hm => by
    have h1 := List.all_eq_true.1 hsz m (DataW.weights_mem_each (j := 1) rfl rfl m hm)
    simpa using h1
  obtain ⟨x1, rfl, eA1⟩ := open_u8 (hval 1 5 v1 rfl rfl) h1 hz1
  have k2 := h2
  have lt2 : ∀ x ∈ p2, x.block < W.heap.size := by obtain ⟨m, hm⟩ := k2; exact DataW.trod_lt m _ _ _ hm
  have hz2 : ∀ m ∈ d2.weights Tryd.prog 4, m ≤ reachBytes := fun m hm => by
    have h1 := List.all_eq_true.1 hsz m (DataW.weights_mem_each (j := 2) rfl rfl m hm)
    simpa using h1
  obtain ⟨x2, rfl, eA2⟩ := open_boolean (hval 2 4 v2 rfl rfl) h2 hz2
  clear hA0 hval0 hsz0
  refine (asmNames_walk x0 x1 x2 W eA0 eA1  hvars).mono fun e W' ⟨v, he, hv, bel⟩ => ?_
  subst he hv
  exact ⟨_, rfl, _, _, _, [], _, [], hW', trodAll_mk1 (shut_bool Tryd.underlying4 _), (trodAll_cons_mk (Below.trod laidOut (by kernel_rfl) (of_decide_eq_true (by kernel_rfl)) k0 bel lt0) (trodAll_cons_mk (Below.trod laidOut (by kernel_rfl) (of_decide_eq_true (by kernel_rfl)) k1 bel lt1) (trodAll_cons_mk (Below.trod laidOut (by kernel_rfl) (of_decide_eq_true (by kernel_rfl)) k2 bel lt2) trodAll_mk0))), rfl, bel.frame _, fun h => by cases h⟩

theorem asmNames_row : Rows.AsmNamesSaid :=
  OpenClaim.holds_of_wide 3 Tryd.f3 rfl rfl rfl rfl rfl rfl rfl ⟨rfl, rfl, rfl, rfl, rfl⟩ rfl rfl rfl rfl rfl (by kernel_rfl) Tryd.func3 (by kernel_rfl)
    (of_decide_eq_true (by kernel_rfl)) (by unfold Func.isWrapper; first | (rw [if_pos (by decide +kernel)]; kernel_rfl) | (rw [if_neg (by decide +kernel)]; exact ⟨rfl, rfl⟩))
    (fun os started H enc _ => asmNames_lifted os started H enc)

theorem asmNames_holds : Rows.AsmNamesCardSaid :=
  Claim7.holds_tied_plain_at .later [] [.data, .data, .data, .data, .sentinel, .sentinel, .data, .pinned] true (true, "d55cc85ed8210602958db176d1b5a3273857d69c0b86cb0600cdc990b033b5c6") true
    asmNames_row (fun _ h => by cases h) (by kernel_rfl) (fun _ h => by cases h) asmNames_row_tie rfl ⟨rfl, rfl⟩ (by kernel_rfl) rfl
    (fun f fn hf hfn => by
      obtain rfl : f = 3 := Option.some.inj ((show Tryd.prog.funcNamed "hibernacle/hibernaclelaw11.AsmNames" = some 3 by kernel_rfl).symm.trans hf) |>.symm
      obtain rfl : fn = Tryd.f3 := (Option.some.inj (Tryd.func3.symm.trans hfn)).symm
      exact ⟨by kernel_rfl, fun j t ht => by
        rw [Tryd.params3] at ht
        rcases j with _ | _ | _ | _ | j
        all_goals first
          | (simp at ht; done)
          | (have h3 := Option.some.inj ht; subst h3; exact (show Tryd.prog.wantsStandIn _ = false by kernel_rfl))⟩)
    (by kernel_rfl)
#print axioms asmNames_holds
end Go.Proofs.YtmmnkoeajdeldaaDoor
