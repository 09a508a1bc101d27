/- SpreadPower holds: with power for fewer than five calls a write is not OK, and all that is done is done on the first shelves; with enough nothing else stands in its way. No condition. -/
import Derived.Test.YtdnebgilkfafhaaGreatDoorLaid
import Derived.Test.YtdnebgilkfafhaaGreatDoorTie
import Derived.Test.YtdnebgilkfafhaaGreatDoorCards
import Derived.Test.YtdnebgilkfafhaaGreatDoorSpAl
import Derived.Test.YtdnebgilkfafhaaGreatDoorLaidV
import Derived.Test.YtdnebgilkfafhaaGreatDoorOpen
import Derived.Deep.DeepHandedRow
import Derived.Deep.DeepWitnessRowRef
import Derived.Lib.LaidTab
namespace Go.Proofs.YtdnebgilkfafhaaGreatDoor
open Go.ChangeShapes Go.WideShapes Go.ChangeAt Go.RowKit
set_option linter.unusedVariables false
set_option linter.unusedSimpArgs false
attribute [local go_sem] ba_get ba_cut ba_add
/-- What stands on a fresh shelf behind a put. -/
theorem pow_fit {nm : List UInt8} {D : Nat → List UInt8} (hn : Pl.okName nm = true) (hd : ∀ i, i < 5 → (D i).length ≤ 65536) (n : Nat) : FitS (putSh nm D (fun _ => Pl.noSh) (n : Int)) := fun i hi => by
  rw [putSh_pow hn hd n hi]
  unfold Pl.powS
  split
  · exact FitG.small (by simp) (by simp)
  · exact FitG.small (Nat.zero_le _) (Nat.zero_le _)
theorem pow_to {nm : List UInt8} {D : Nat → List UInt8} (hn : Pl.okName nm = true) (hd : ∀ i, i < 5 → (D i).length ≤ 65536) (n : Nat) {i : Nat} (hi : i < 5) : getTo nm (putSh nm D (fun _ => Pl.noSh) (n : Int)) (-1) i = Pl.powT nm D n i := by
  unfold getTo
  rw [Pl.leftAt_neg, putSh_pow hn hd n hi, Pl.pow_tell hn n i (hd i hi)]
theorem pow_readw {nm d : List UInt8} (hn : Pl.okName nm = true) (hd : d.length ≤ 65536) (n : Nat) (X : Nat → ShX) (W : World) (hok : StOk W (putSh nm (Pl.partOf nm d) (fun _ => Pl.noSh) (n : Int)) X) (hv : VSp W) :
    Calls Tryz.prog 14 #[.agg (stoL (putSh nm (Pl.partOf nm d) (fun _ => Pl.noSh) (n : Int)) X (-1)).toArray, .string ⟨nm.toArray⟩] W (RetB (RdOut (if 3 ≤ n then d else []) (if 3 ≤ n then 0 else 9)) W) := by
  have hp : ∀ i, i < 5 → (Pl.partOf nm d i).length ≤ 65536 := fun i hi => Pl.part_len (Pl.okName_len hn).2 hd i hi
  refine (sread_good _ X (-1) (by unfold Pl.I64; omega) nm W hok (pow_fit hn hp n) hn hv fun i hi => ?_).mono fun e w' h => h.imp fun v w' h => ?_
  · rw [pow_to hn hp n hi]
    unfold Pl.powT
    split
    · exact Nat.le_trans (hp i hi) (by decide)
    · exact Nat.zero_le _
  · have hr := Pl.pow_read hn hd n
    rw [to5 fun i hi => pow_to hn hp n hi, hr.1] at h
    by_cases h3 : 3 ≤ n
    · rw [if_pos h3] at h ⊢; rw [if_pos h3]; exact h.rd
    · rw [if_neg h3, hr.2 (by omega)] at h; rw [if_neg h3, if_neg h3]; exact h.rd
set_option maxRecDepth 100000 in
set_option maxHeartbeats 8000000 in
theorem spreadPower_walk (nm d : List UInt8) (x : Nat) (w : World) (hnm : nm.length ≤ 140737488355328) (hdl : d.length ≤ 140737488355328) (hx : x < 256) (hv : VNum w ∧ VHash w) :
    Calls Tryz.prog 5 #[.string ⟨nm.toArray⟩, .string ⟨d.toArray⟩, .int .u8 (x : Int)] w (RetB (fun v _ => v = .bool true) w) := by
  obtain ⟨N, hN⟩ : ∃ N, w.heap.size = N := ⟨_, rfl⟩
  have HV := Lib.hid (VSp.mk hv.1 hv.2)
  clear hv
  go_enter Tryz.func5, Tryz.ntmps5
  go_upto_region 3 with (with_reducible refine (salive_any w HV.out).mono ?_)
  rintro _ w1 ⟨v, rfl, rfl, hb1⟩
  have HB := Lib.hid hb1
  clear hb1
  by_cases hA : nm.length < 1
  · have hA' : decide ((nm.length : Int) < 1) = true := by simp; omega
    clear hA
    go_wp2_with fail
    go_ret
    exact ⟨_, rfl, rfl, HB.out⟩
  have hA' : decide ((nm.length : Int) < 1) = false := by simp; omega
  by_cases hB : 100 < nm.length
  · have hB' : decide ((100 : Int) < (nm.length : Int)) = true := by simp; omega
    clear hA hB
    go_wp2_with fail
    go_ret
    exact ⟨_, rfl, rfl, HB.out⟩
  have hB' : decide ((100 : Int) < (nm.length : Int)) = false := by simp; omega
  by_cases hC : 500 < d.length
  · have hC' : decide ((500 : Int) < (d.length : Int)) = true := by simp; omega
    clear hA hB hC
    go_wp2_with fail
    go_ret
    exact ⟨_, rfl, rfl, HB.out⟩
  have hC' : decide ((500 : Int) < (d.length : Int)) = false := by simp; omega
  have hgn : Pl.okName nm = true := by unfold Pl.okName; simp; omega
  have hdd : d.length ≤ 65536 := by omega
  have hp : ∀ i, i < 5 → (Pl.partOf nm d i).length ≤ 65536 := fun i hi => Pl.part_len (Pl.okName_len hgn).2 hdd i hi
  have hm0 : Pl.mayPutE nm d = 0 := by unfold Pl.mayPutE; rw [if_neg (by rw [hgn]; decide), if_neg (by omega)]
  obtain ⟨n, hn⟩ : ∃ n, x % 8 = n := ⟨_, rfl⟩
  have hn8 : n < 8 := by omega
  have hI : Pl.I64 (n : Int) := by unfold Pl.I64; omega
  have hwr := fun W hok hv => swrite_good (fun _ => Pl.noSh) (fun _ => zx) (n : Int) hI nm d W hok FitS.fresh hm0 (by omega) hdd hv
  have hpo := fun W hok => spost_good (fun _ => Pl.noSh) (fun _ => zx) (n : Int) hI nm d W hok FitS.fresh hm0 (by omega)
  have hrd := pow_readw hgn hdd n
  have hsw := fun i (hi : i < 5) => putSh_pow hgn hp n hi
  have hsp := fun i (hi : i < 5) => putSh_pow (D := fun _ => d) hgn (fun _ _ => hdd) n hi
  rw [fst_pow hgn hp, Pl.leftAt_nat] at hwr
  rw [fst_pow hgn (fun _ _ => hdd), Pl.leftAt_nat] at hpo
  obtain ⟨Sw, hSw⟩ : ∃ S, putSh nm (Pl.partOf nm d) (fun _ => Pl.noSh) (n : Int) = S := ⟨_, rfl⟩
  obtain ⟨Sp, hSp⟩ : ∃ S, putSh nm (fun _ => d) (fun _ => Pl.noSh) (n : Int) = S := ⟨_, rfl⟩
  obtain ⟨e, he⟩ : ∃ e, (if 5 ≤ n then 0 else 17) = e := ⟨_, rfl⟩
  obtain ⟨m, hm⟩ : ∃ m, n - 5 = m := ⟨_, rfl⟩
  rw [hSw, he, hm] at hwr
  rw [hSp, he, hm] at hpo
  rw [hSw] at hrd hsw
  rw [hSp] at hsp
  have HH := Lib.hid (And.intro hwr (And.intro hpo (And.intro hrd (And.intro hsw hsp))))
  have HE := Lib.hid (And.intro he hm)
  clear hwr hpo hrd hsw hsp hSw hSp he hm hp hm0 hI hgn hdd
  go_upto_region 6 with (with_reducible refine (fresh_any w1).mono ?_)
  rintro _ w2 ⟨v, rfl, rfl, hb2⟩
  obtain ⟨L0, hL0⟩ : ∃ L, stoL (fun _ => Pl.noSh) (fun _ => zx) (-1) = L := ⟨_, rfl⟩
  have hl0 : L0.length = 11 := by rw [← hL0]; rfl
  have ho0 : ∀ v ∈ L0, v.oneCell' = true := by rw [← hL0]; exact stoL_one _ _ _
  rw [hL0]
  have hbt := box_there w2 (L := L0) hl0
  have hbi := info_stoA (L := L0) hl0
  go_upto_region 6 with first
    | with_reducible refine wpList_store_mid rfl 33 _ _ rfl w2.heap.size 0 L0.toArray rfl rfl hbt hbi (all_oneCell_toArray ho0) ?_
  obtain ⟨W3, hW⟩ : ∃ W', boxW w2 L0 = W' := ⟨_, rfl⟩
  have hat := box_at w2 (L := L0) hl0
  have hbl := box_below w2 L0
  rw [hW] at hat hbl
  unfold boxW at hW
  obtain ⟨T7, hT⟩ : ∃ T', w2.heap.size = T' := ⟨_, rfl⟩
  rw [hT] at hW hat hbl
  simp only [hT]
  simp only [hW]
  have hge_T7 : w2.heap.size ≤ T7 := Nat.le_of_eq hT
  have hle_T7 : T7 ≤ w2.heap.size := Nat.le_of_eq hT.symm
  clear hW hT hbt hbi
  rw [← hL0] at hat
  have h73 : StBx T7 (fun _ => Pl.noSh) (fun _ => zx) (-1) W3 := hat
  have hs1 := HB.out.size
  have hs2 := hb2.size
  have hs3 := blk_lt hat
  have HB3 := Lib.hid (And.intro h73 ((HB.out.trans (hb2.mono (by omega))).trans (hbl.mono (by omega))))
  have c7 := h73.cl
  have f7 := h73.fz 10
  clear h73 hat hbl hb2 hL0 hl0 ho0 HB
  have hxr : Int.tmod (x : Int) 8 = (n : Int) := by rw [Int.tmod_eq_emod_of_nonneg (by omega)]; omega
  go_upto_region 7 with (fail)
  have hst4 := HB3.out.1.setLeft (n : Int)
  have hb4 : Below N w (W3.setCell ⟨T7, 10, none⟩ (.int .i64 (n : Int))) := by
    have hNT : N ≤ T7 := by omega
    exact Below.setCell (by rw [← hN] at hNT ⊢; exact HB3.out.2) hNT _
  have hsz4 : (W3.setCell ⟨T7, 10, none⟩ (.int .i64 (n : Int))).heap.size = W3.heap.size := by simp only [World.size_setCell]
  obtain ⟨W4, hW4⟩ : ∃ W', W3.setCell ⟨T7, 10, none⟩ (.int .i64 (n : Int)) = W' := ⟨_, rfl⟩
  rw [hW4] at hst4 hb4 hsz4
  simp only [hW4]
  have hs4 : T7 < W4.heap.size := by omega
  have hwr := HH.out.1 W4 (StF.fresh 0 W4).ok (HV.out.below (by rw [hN]; exact hb4))
  have hr4 := hst4.range
  have hi4 := info_stoL (L := stoL (fun _ => Pl.noSh) (fun _ => zx) (n : Int)) rfl
  have HS4 := Lib.hid (And.intro hst4 hb4)
  obtain ⟨L4, hL4⟩ : ∃ L, stoL (fun _ => Pl.noSh) (fun _ => zx) (n : Int) = L := ⟨_, rfl⟩
  rw [hL4] at hwr hr4 hi4
  have HWR := Lib.hid hwr
  have HL4 := Lib.hid hL4
  clear hW4 hsz4 hwr hst4 hb4 hL4 c7 f7 hxr hs1 hs2 hs3 hge_T7 hn HB3
  go_upto_region 8 with first
    | with_reducible refine wpList_load_mid rfl 33 _ rfl T7 0 rfl L4 _ hr4 Tryz.underlying33 rfl hi4 ?_
    | (with_reducible refine HWR.out.mono ?_)
  rintro _ w5 ⟨v, rfl, ⟨X5, rfl, hst5⟩, hb5⟩
  clear hr4
  obtain ⟨L5, hL5⟩ : ∃ L, stoL Sw X5 (m : Int) = L := ⟨_, rfl⟩
  have hl5 : L5.length = 11 := by rw [← hL5]; rfl
  have ho5 : ∀ v ∈ L5, v.oneCell' = true := by rw [← hL5]; exact stoL_one _ _ _
  rw [hL5]
  have hbt := box_there w5 (L := L5) hl5
  have hbi := info_stoA (L := L5) hl5
  go_upto_region 8 with first
    | with_reducible refine wpList_store_mid rfl 33 _ _ rfl w5.heap.size 0 L5.toArray rfl rfl hbt hbi (all_oneCell_toArray ho5) ?_
  obtain ⟨W6, hW⟩ : ∃ W', boxW w5 L5 = W' := ⟨_, rfl⟩
  have hat := box_at w5 (L := L5) hl5
  have hbl := box_below w5 L5
  rw [hW] at hat hbl
  unfold boxW at hW
  obtain ⟨T8, hT⟩ : ∃ T', w5.heap.size = T' := ⟨_, rfl⟩
  rw [hT] at hW hat hbl
  simp only [hT]
  simp only [hW]
  have hge_T8 : w5.heap.size ≤ T8 := Nat.le_of_eq hT
  have hle_T8 : T8 ≤ w5.heap.size := Nat.le_of_eq hT.symm
  clear hW hT hbt hbi
  rw [← hL5] at hat
  have h8 : StBx T8 Sw X5 (m : Int) W6 := hat
  have hs5 := hb5.size
  have hs6 := blk_lt hat
  have hb46 : Below W4.heap.size W4 W6 := hb5.trans (hbl.mono (by omega))
  have h7 := HS4.out.1.keep hb46
  have hst6 : StF W4.heap.size W6 Sw X5 := hst5.kpt (KpT.below (hbl.mono hge_T8))
  have hNW : N ≤ W4.heap.size := by have := HS4.out.2.size; omega
  have hb6 : Below N w W6 := HS4.out.2.trans (hb46.mono hNW)
  have hpo := HH.out.2.1 W6 (StF.fresh 0 W6).ok
  have hr6 := h7.range
  rw [HL4.out] at hpo hr6
  have HPO := Lib.hid hpo
  have HS6 := Lib.hid (And.intro h7 (And.intro h8 (And.intro (hst6.weak hNW) hb6)))
  clear hat hbl hb5 hst5 hL5 hl5 ho5 hb46 h7 h8 hst6 hb6 hpo HWR HS4
  go_upto_region 9 with first
    | with_reducible refine wpList_load_mid rfl 33 _ rfl T7 0 rfl L4 _ hr6 Tryz.underlying33 rfl hi4 ?_
    | (with_reducible refine HPO.out.mono ?_)
  rintro _ w8 ⟨v, rfl, ⟨X8, rfl, hst8⟩, hb8⟩
  clear hr6 hi4 HPO
  obtain ⟨L8, hL8⟩ : ∃ L, stoL Sp X8 (m : Int) = L := ⟨_, rfl⟩
  have hl8 : L8.length = 11 := by rw [← hL8]; rfl
  have ho8 : ∀ v ∈ L8, v.oneCell' = true := by rw [← hL8]; exact stoL_one _ _ _
  rw [hL8]
  have hbt := box_there w8 (L := L8) hl8
  have hbi := info_stoA (L := L8) hl8
  go_upto_region 10 with first
    | with_reducible refine wpList_store_mid rfl 33 _ _ rfl w8.heap.size 0 L8.toArray rfl rfl hbt hbi (all_oneCell_toArray ho8) ?_
  obtain ⟨W9, hW⟩ : ∃ W', boxW w8 L8 = W' := ⟨_, rfl⟩
  have hat := box_at w8 (L := L8) hl8
  have hbl := box_below w8 L8
  rw [hW] at hat hbl
  unfold boxW at hW
  obtain ⟨TA, hT⟩ : ∃ T', w8.heap.size = T' := ⟨_, rfl⟩
  rw [hT] at hW hat hbl
  simp only [hT]
  simp only [hW]
  have hge_TA : w8.heap.size ≤ TA := Nat.le_of_eq hT
  have hle_TA : TA ≤ w8.heap.size := Nat.le_of_eq hT.symm
  clear hW hT hbt hbi
  rw [← hL8] at hat
  have hA : StBx TA Sp X8 (m : Int) W9 := hat
  have hs8 := hb8.size
  have hs9 := blk_lt hat
  have hb69 : Below W6.heap.size W6 W9 := hb8.trans (hbl.mono (by omega))
  have h7 := HS6.out.1.keep hb69
  have h8 := HS6.out.2.1.keep hb69
  have hst9 : StF N W9 Sp X8 := (hst8.kpt (KpT.below (hbl.mono hge_TA))).weak (by have := HS6.out.2.2.2.size; omega)
  have hst6 : StF N W9 Sw X5 := HS6.out.2.2.1.kpt (KpT.below hb69)
  have hNW : N ≤ W6.heap.size := by have := HS6.out.2.2.2.size; omega
  have hb9 : Below N w W9 := HS6.out.2.2.2.trans (hb69.mono hNW)
  have hN8 : N ≤ T8 := by omega
  have h7n := h7.cl
  have h8n := h8.cl
  have hAn := hA.cl
  have HS9 := Lib.hid (And.intro h7 (And.intro h8 (And.intro hA (And.intro hst6 (And.intro hst9 hb9)))))
  clear hat hbl hb8 hst8 hL8 hl8 ho8 hb69 h7 h8 hst6 hst9 hb9 HS6 hA
  go_loopw [52] (fun iv wr => ∃ (i : Nat), i ≤ 5 ∧ iv = .int .i64 (i : Int) ∧ wr = W9) (fun iv _ => 5 - (intOf iv).toNat)
  case atStart => exact ⟨0, by omega, rfl, rfl⟩
  case round =>
    obtain ⟨i, hi, rfl, rfl⟩ := hrel
    by_cases hi5 : i < 5
    · have c8 := HS9.out.2.1.c0 hi5
      have cA := HS9.out.2.2.1.c0 hi5
      have hw := HH.out.2.2.2.1 i hi5
      have hp := HH.out.2.2.2.2 i hi5
      have hsp := (HS9.out.2.2.2.2.1 i hi5).1.1
      rw [hw] at c8
      rw [hp] at cA hsp
      unfold Pl.powS at c8 cA hsp
      by_cases hin : i < n
      · have hin' : decide (i < n) = true := decide_eq_true hin
        rw [if_pos hin] at c8 cA hsp
        obtain ⟨b, off, hXA, hlt, hc⟩ := hsp.1.2 (by simp)
        have hd1 := hc 1 (by simp [objCs, objC])
        have hd2 : wr.cell? ⟨b, off + 1, none⟩ = some (.string ⟨d.toArray⟩) := by rw [hd1]; rfl
        rw [hXA] at cA
        have hdd : (d != d) = false := by simp
        simp only [List.length_cons, List.length_nil, Nat.zero_add] at c8 cA
        clear hw hp hsp hXA hlt hc hd1 hin
        go_wp2_with fail
        exact ⟨⟨i + 1, by omega, ret_i (by omega), trivial⟩, by simp only [intOf]; omega⟩
      · have hin' : decide (i < n) = false := decide_eq_false hin
        rw [if_neg hin] at c8 cA hsp
        have hz : Pl.noSh.objs.length = 0 := rfl
        rw [hz] at c8 cA
        clear hw hp hsp hin hz
        go_wp2_with fail
        exact ⟨⟨i + 1, by omega, ret_i (by omega), trivial⟩, by simp only [intOf]; omega⟩
    · obtain rfl : i = 5 := by omega
      clear hi hi5
      have hmE := HE.out.2
      by_cases hn5 : 5 ≤ n
      · have he0 : e = 0 := by rw [← HE.out.1, if_pos hn5]
        subst he0
        have g1 : decide ((5 : Int) ≤ (n : Int)) = true := by simp; omega
        have g2 : decide (5 ≤ n) = true := decide_eq_true hn5
        have hmx : ((n : Int) - 5) = (m : Int) := by omega
        clear hmE hn5
        go_upto_region 21 with (fail)
        have f8 := HS9.out.2.1.fz 10
        go_upto_region 22 with (fail)
        have h8 := HS9.out.2.1.setLeft (-1)
        have hok := (HS9.out.2.2.2.1.kpt (HS9.out.2.1.kpt (b := N) 10 (.int .i64 (-1)))).ok
        have hb : Below N w (wr.setCell ⟨T8, 10, none⟩ (.int .i64 (-1))) := Below.setCell HS9.out.2.2.2.2.2 hN8 _
        have h7 : StBx T7 (fun _ => Pl.noSh) (fun _ => zx) (n : Int) (wr.setCell ⟨T8, 10, none⟩ (.int .i64 (-1))) := (Below.heap_setCell _ _ _ _ (by show T7 ≠ T8; omega)).trans HS9.out.1
        generalize hWX : wr.setCell ⟨T8, 10, none⟩ (.int .i64 (-1)) = WX at h8 hok hb h7
        have hrd := HH.out.2.2.1 X5 WX hok (HV.out.below (by rw [hN]; exact hb))
        have hr8 := h8.range
        have hi8 := info_stoL (L := stoL Sw X5 (-1)) rfl
        have HS1 := Lib.hid (And.intro h7 hb)
        obtain ⟨LX, hLX⟩ : ∃ L, stoL Sw X5 (-1) = L := ⟨_, rfl⟩
        rw [hLX] at hrd hr8 hi8
        obtain ⟨dr, hdr⟩ : ∃ dr, (if 3 ≤ n then d else []) = dr := ⟨_, rfl⟩
        obtain ⟨er, her⟩ : ∃ er, (if 3 ≤ n then 0 else 9) = er := ⟨_, rfl⟩
        rw [hdr, her] at hrd
        have HRD := Lib.hid (And.intro hrd (And.intro hdr her))
        clear hWX hrd h8 hok h7 hb hLX hdr her h7n h8n hAn f8 HS9
        go_upto_region 23 with first
          | with_reducible refine wpList_load_mid rfl 33 _ rfl T8 0 rfl LX _ hr8 Tryz.underlying33 rfl hi8 ?_
          | (with_reducible refine HRD.out.1.mono ?_)
        rintro _ w7 ⟨v, rfl, ⟨L7, rfl, hl7, ho7⟩, hb7⟩
        have h77 := HS1.out.1.keep hb7
        have hsx := HS1.out.2.size
        have hs7 := hb7.size
        have HB7 := Lib.hid (And.intro h77 (HS1.out.2.trans (hb7.mono (by omega))))
        clear hr8 hi8 hb7 h77
        have hbt := box_there w7 (L := L7) hl7
        have hbi := info_stoA (L := L7) hl7
        go_upto_region 23 with first
          | with_reducible refine wpList_store_mid rfl 33 _ _ rfl w7.heap.size 0 L7.toArray rfl rfl hbt hbi (all_oneCell_toArray ho7) ?_
        obtain ⟨WF, hW⟩ : ∃ W', boxW w7 L7 = W' := ⟨_, rfl⟩
        have hat := box_at w7 (L := L7) hl7
        have hbl := box_below w7 L7
        rw [hW] at hat hbl
        unfold boxW at hW
        obtain ⟨TF, hT⟩ : ∃ T', w7.heap.size = T' := ⟨_, rfl⟩
        rw [hT] at hW hat hbl
        simp only [hT]
        simp only [hW]
        have hge_TF : w7.heap.size ≤ TF := Nat.le_of_eq hT
        have hle_TF : TF ≤ w7.heap.size := Nat.le_of_eq hT.symm
        clear hW hT hbt hbi
        have h7c := (HB7.out.1.keep (hbl.mono hge_TF)).cl
        have hbF : Below N w WF := HB7.out.2.trans (hbl.mono (by omega))
        have HBF := Lib.hid hbF
        clear hbl hat hbF hl7 ho7
        by_cases h3 : 3 ≤ n
        · have g3 : decide ((3 : Int) ≤ (n : Int)) = true := by simp; omega
          have g4 : decide (3 ≤ n) = true := decide_eq_true h3
          obtain rfl : d = dr := by rw [← HRD.out.2.1, if_pos h3]
          obtain rfl : 0 = er := by rw [← HRD.out.2.2, if_pos h3]
          clear h3
          go_wp2_with fail
          go_ret
          exact ⟨_, rfl, rfl, by rw [hN]; exact HBF.out⟩
        · have g3 : decide ((3 : Int) ≤ (n : Int)) = false := by simp; omega
          have g4 : decide (3 ≤ n) = false := decide_eq_false h3
          obtain rfl : [] = dr := by rw [← HRD.out.2.1, if_neg h3]
          obtain rfl : 9 = er := by rw [← HRD.out.2.2, if_neg h3]
          clear h3
          go_wp2_with fail
          go_ret
          exact ⟨_, rfl, rfl, by rw [hN]; exact HBF.out⟩
      · have he0 : e = 17 := by rw [← HE.out.1, if_neg hn5]
        subst he0
        have hm0 : m = 0 := by omega
        subst hm0
        have g1 : decide ((5 : Int) ≤ (n : Int)) = false := by simp; omega
        have g2 : decide (5 ≤ n) = false := decide_eq_false hn5
        have hmx : max (0 : Int) ((n : Int) - 5) = 0 := by omega
        clear hmE hn5
        go_upto_region 21 with (fail)
        have f8 := HS9.out.2.1.fz 10
        go_upto_region 22 with (fail)
        have h8 := HS9.out.2.1.setLeft (-1)
        have hok := (HS9.out.2.2.2.1.kpt (HS9.out.2.1.kpt (b := N) 10 (.int .i64 (-1)))).ok
        have hb : Below N w (wr.setCell ⟨T8, 10, none⟩ (.int .i64 (-1))) := Below.setCell HS9.out.2.2.2.2.2 hN8 _
        have h7 : StBx T7 (fun _ => Pl.noSh) (fun _ => zx) (n : Int) (wr.setCell ⟨T8, 10, none⟩ (.int .i64 (-1))) := (Below.heap_setCell _ _ _ _ (by show T7 ≠ T8; omega)).trans HS9.out.1
        generalize hWX : wr.setCell ⟨T8, 10, none⟩ (.int .i64 (-1)) = WX at h8 hok hb h7
        have hrd := HH.out.2.2.1 X5 WX hok (HV.out.below (by rw [hN]; exact hb))
        have hr8 := h8.range
        have hi8 := info_stoL (L := stoL Sw X5 (-1)) rfl
        have HS1 := Lib.hid (And.intro h7 hb)
        obtain ⟨LX, hLX⟩ : ∃ L, stoL Sw X5 (-1) = L := ⟨_, rfl⟩
        rw [hLX] at hrd hr8 hi8
        obtain ⟨dr, hdr⟩ : ∃ dr, (if 3 ≤ n then d else []) = dr := ⟨_, rfl⟩
        obtain ⟨er, her⟩ : ∃ er, (if 3 ≤ n then 0 else 9) = er := ⟨_, rfl⟩
        rw [hdr, her] at hrd
        have HRD := Lib.hid (And.intro hrd (And.intro hdr her))
        clear hWX hrd h8 hok h7 hb hLX hdr her h7n h8n hAn f8 HS9
        go_upto_region 23 with first
          | with_reducible refine wpList_load_mid rfl 33 _ rfl T8 0 rfl LX _ hr8 Tryz.underlying33 rfl hi8 ?_
          | (with_reducible refine HRD.out.1.mono ?_)
        rintro _ w7 ⟨v, rfl, ⟨L7, rfl, hl7, ho7⟩, hb7⟩
        have h77 := HS1.out.1.keep hb7
        have hsx := HS1.out.2.size
        have hs7 := hb7.size
        have HB7 := Lib.hid (And.intro h77 (HS1.out.2.trans (hb7.mono (by omega))))
        clear hr8 hi8 hb7 h77
        have hbt := box_there w7 (L := L7) hl7
        have hbi := info_stoA (L := L7) hl7
        go_upto_region 23 with first
          | with_reducible refine wpList_store_mid rfl 33 _ _ rfl w7.heap.size 0 L7.toArray rfl rfl hbt hbi (all_oneCell_toArray ho7) ?_
        obtain ⟨WF, hW⟩ : ∃ W', boxW w7 L7 = W' := ⟨_, rfl⟩
        have hat := box_at w7 (L := L7) hl7
        have hbl := box_below w7 L7
        rw [hW] at hat hbl
        unfold boxW at hW
        obtain ⟨TF, hT⟩ : ∃ T', w7.heap.size = T' := ⟨_, rfl⟩
        rw [hT] at hW hat hbl
        simp only [hT]
        simp only [hW]
        have hge_TF : w7.heap.size ≤ TF := Nat.le_of_eq hT
        have hle_TF : TF ≤ w7.heap.size := Nat.le_of_eq hT.symm
        clear hW hT hbt hbi
        have h7c := (HB7.out.1.keep (hbl.mono hge_TF)).cl
        have hbF : Below N w WF := HB7.out.2.trans (hbl.mono (by omega))
        have HBF := Lib.hid hbF
        clear hbl hat hbF hl7 ho7
        by_cases h3 : 3 ≤ n
        · have g3 : decide ((3 : Int) ≤ (n : Int)) = true := by simp; omega
          have g4 : decide (3 ≤ n) = true := decide_eq_true h3
          obtain rfl : d = dr := by rw [← HRD.out.2.1, if_pos h3]
          obtain rfl : 0 = er := by rw [← HRD.out.2.2, if_pos h3]
          clear h3
          go_wp2_with fail
          go_ret
          exact ⟨_, rfl, rfl, by rw [hN]; exact HBF.out⟩
        · have g3 : decide ((3 : Int) ≤ (n : Int)) = false := by simp; omega
          have g4 : decide (3 ≤ n) = false := decide_eq_false h3
          obtain rfl : [] = dr := by rw [← HRD.out.2.1, if_neg h3]
          obtain rfl : 9 = er := by rw [← HRD.out.2.2, if_neg h3]
          clear h3
          go_wp2_with fail
          go_ret
          exact ⟨_, rfl, rfl, by rw [hN]; exact HBF.out⟩
-- FRAME
set_option maxRecDepth 100000 in
theorem spreadPower_lifted (os : Os) (started : os.Started) (H : Type) (enc : TypeId × Value → H) :
    ReturnsInHanded {} Tryz.checked os 5 .any (fun w args => (Rows.spreadPowerSpec.pre enc Tryz.prog Tryz.f5 [] false w args ∧ laidMetH Tryz.prog tabsW w) ∧ sizedMet enc Tryz.prog Tryz.f5 (OpenSpec.ofChange Rows.spreadPowerSpec) false w args) (Rows.spreadPowerSpec.post enc Tryz.prog Tryz.f5 false true false false) := by
  refine returnsInHanded_of_change_and (C := Tryz.checked) (X := fun w _ => laidMetH Tryz.prog tabsW w) (fun _ _ _ hh h => h.of_heap hh) own started (by kernel_rfl) Tryz.func5
    (ChangeSpec.witness_shaped (enc := enc) (C := Tryz.checked) (os := os) (X := fun w _ => laidMetH Tryz.prog tabsW w) false (World.doorLaid Tryz.prog 100 os) #[.string ⟨#[]⟩, .string ⟨#[]⟩, .int .u8 0] 8 rfl (World.shaped_of_RefB (by kernel_rfl) (by kernel_rfl)) (by kernel_rfl) (by kernel_rfl) (by kernel_rfl) (door_metW os _)) ?_
  intro W base args ds gs before hval0 hW hcnd hsz0 hL _
  have hvars := vnum_ofW hL
  have hval : ∀ (j : Nat) t v, Tryz.f5.params[j]? = some t → args[j]? = some v → Value.okWide Tryz.prog W .any base t v := hval0
  have hW' := hW
  obtain ⟨p, q, hA0, hV, rfl, hfz, hnd⟩ := hW
  have hA : DataW.TrodAll enc Tryz.prog W 0 (fun _ => true) true Tryz.f5.params.toList args.toList ds p := hA0
  have hsz : (DataW.weightsEach Tryz.prog (Tryz.f5.params.toList ++ Rows.spreadPowerSpec.plain.varTypes Tryz.prog) (ds ++ gs)).all (· ≤ reachBytes) = true := hsz0
  rw [Tryz.params5] at hA hval hsz
  obtain ⟨v0, vs0, d0, ds0, p0, q0, hargs, rfl, rfl, h0, r0⟩ := trodAll_cons hA
  obtain ⟨v1, vs1, d1, ds1, p1, q1, rfl, rfl, rfl, h1, r1⟩ := trodAll_cons r0
  obtain ⟨v2, vs2, d2, ds2, p2, q2, rfl, rfl, rfl, h2, r2⟩ := trodAll_cons r1
  obtain ⟨rfl, rfl, rfl⟩ := trodAll_nil r2
  obtain rfl : args = #[v0, v1, v2] := by cases args; simp_all
  obtain ⟨rfl, rfl⟩ := trodVars_none hV
  have k0 := h0
  have lt0 : ∀ x ∈ p0, x.block < W.heap.size := by obtain ⟨m, hm⟩ := k0; exact DataW.trod_lt m _ _ _ hm
  have hz0 : ∀ m ∈ d0.weights Tryz.prog 9, m ≤ reachBytes := fun m hm => by
    have h1 := List.all_eq_true.1 hsz m (DataW.weights_mem_each (j := 0) rfl rfl m hm)
    simpa using h1
  obtain ⟨l0, rfl, eA0⟩ := open_str (hval 0 9 v0 rfl rfl) h0 hz0
  have k1 := h1
  have lt1 : ∀ x ∈ p1, x.block < W.heap.size := by obtain ⟨m, hm⟩ := k1; exact DataW.trod_lt m _ _ _ hm
  have hz1 : ∀ m ∈ d1.weights Tryz.prog 9, m ≤ reachBytes := fun m hm => by
    have h1 := List.all_eq_true.1 hsz m (DataW.weights_mem_each (j := 1) rfl rfl m hm)
    simpa using h1
  obtain ⟨l1, rfl, eA1⟩ := open_str (hval 1 9 v1 rfl rfl) h1 hz1
  have k2 := h2
  have lt2 : ∀ x ∈ p2, x.block < W.heap.size := by obtain ⟨m, hm⟩ := k2; exact DataW.trod_lt m _ _ _ hm
  have hz2 : ∀ m ∈ d2.weights Tryz.prog 5, m ≤ reachBytes := fun m hm => by
    have h1 := List.all_eq_true.1 hsz m (DataW.weights_mem_each (j := 2) rfl rfl m hm)
    simpa using h1
  obtain ⟨x2, rfl, eA2⟩ := open_u8 (hval 2 5 v2 rfl rfl) h2 hz2
  clear hA0 hval0 hsz0
  refine (spreadPower_walk l0 l1 x2 W (Nat.le_trans eA0 reach_le) (Nat.le_trans eA1 reach_le) eA2 hvars).mono fun e W' ⟨v, he, hv, bel⟩ => ?_
  subst he hv
  exact ⟨_, rfl, _, _, _, [], _, [], hW', trodAll_mk1 (shut_bool Tryz.underlying4 _), (trodAll_cons_mk (Below.trod laidOut (by kernel_rfl) (of_decide_eq_true (by kernel_rfl)) k0 bel lt0) (trodAll_cons_mk (Below.trod laidOut (by kernel_rfl) (of_decide_eq_true (by kernel_rfl)) k1 bel lt1) (trodAll_cons_mk (Below.trod laidOut (by kernel_rfl) (of_decide_eq_true (by kernel_rfl)) k2 bel lt2) trodAll_mk0))), rfl, bel.frame _, fun h => by cases h⟩

theorem spreadPower_row : Rows.SpreadPowerSaid :=
  OpenClaim.holds_of_wide 5 Tryz.f5 rfl rfl rfl rfl rfl rfl rfl ⟨rfl, rfl, rfl, rfl, rfl⟩ rfl rfl rfl rfl rfl (by kernel_rfl) Tryz.func5 (by kernel_rfl)
    (of_decide_eq_true (by kernel_rfl)) (by unfold Func.isWrapper; first | (rw [if_pos (by decide +kernel)]; kernel_rfl) | (rw [if_neg (by decide +kernel)]; exact ⟨rfl, rfl⟩))
    (fun os started H enc _ => spreadPower_lifted os started H enc)

theorem spreadPower_holds : Rows.SpreadPowerCardSaid :=
  Claim7.holds_tied_plain_at .later [] [.data, .data, .data, .data, .data, .sentinel, .sentinel] true (true, "0b7c186e8d0c8ec5dbd714917fda1c1a9863461abdd35648811154aebd693e09") true
    spreadPower_row (fun _ h => by cases h) (by kernel_rfl) (fun _ h => by cases h) spreadPower_row_tie rfl ⟨rfl, rfl⟩ (by kernel_rfl) rfl
    (fun f fn hf hfn => by
      obtain rfl : f = 5 := Option.some.inj ((show Tryz.prog.funcNamed "hibernacle/hibernaclelaw37.SpreadPower" = some 5 by kernel_rfl).symm.trans hf) |>.symm
      obtain rfl : fn = Tryz.f5 := (Option.some.inj (Tryz.func5.symm.trans hfn)).symm
      exact ⟨by kernel_rfl, fun j t ht => by
        rw [Tryz.params5] at ht
        rcases j with _ | _ | _ | _ | j
        all_goals first
          | (simp at ht; done)
          | (have h3 := Option.some.inj ht; subst h3; exact (show Tryz.prog.wantsStandIn _ = false by kernel_rfl))⟩)
    (by kernel_rfl)
#print axioms spreadPower_holds
end Go.Proofs.YtdnebgilkfafhaaGreatDoor
