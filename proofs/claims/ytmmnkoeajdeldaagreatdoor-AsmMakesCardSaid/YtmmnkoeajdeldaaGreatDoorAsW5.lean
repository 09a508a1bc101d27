/- The assembler's lines: raw, la, li. The assembler's lines la and li; printed by genas.py. The assembler's line li; printed by genas.py. The assembler's rooms and data grow; the line room (printed by genas.py). The assembler's line text (printed by genas.py). The assembler's multiples, and a number as that of an instruction. -/
import Derived.Test.YtmmnkoeajdeldaaGreatDoorAsW4
import Derived.Lib.AppendStr
namespace Go.Proofs.YtmmnkoeajdeldaaGreatDoor
open Go.RowKit Go.Maps Go.WideMaps
set_option linter.unusedVariables false
set_option linter.unusedSimpArgs false
attribute [local go_sem] ba_get ba_cut ba_add fld_k fld_s fld_n
theorem LnK.box {a b : World} {H A N : Nat} (h : a.grownBy b (some A)) (hH : H ≤ a.heap.size) : LnK a b H A N := LnK.grown h hH (by intro g hg; injection hg with hg; exact .inl hg.symm)
/-- A piece built of some of its parts. -/
def pcRaw (m : Nat) : Pl.Pc := ⟨0, ⟨0, 0, 0, 0, 0⟩, true, m, false, [], 0⟩
theorem build_raw (m : Nat) (w : World) : (Instr.build 126 #[(2, .bool true), (3, .int .u32 (m : Int))]).run Tryz.prog w = .ok (.agg (pcL (pcRaw m)).toArray) w := by kernel_rfl
set_option maxRecDepth 100000 in
theorem raw_any (H A M ln : Nat) (S : Pl.St) (Z : AsV) (Y : List (List UInt8 × Value)) (l : List Pl.Tk) (w : World) (hA : AsAt w H A ln S Z Y) (hT : TkAt w A M Z.r l) (hM : M ≤ w.heap.size) (hN : S.pcs.length ≤ 1000000) (hln : ∀ t ∈ l, -9223372036854775808 ≤ t.n ∧ t.n ≤ 9223372036854775807) :
    Calls Tryz.prog 59 #[.pointer (some ⟨A, 0, none⟩)] w (LnQ w H A ln Z Y (Pl.rawP ln l S)) := by
  have HA := Lib.hid hA
  have hC := want_any A M ln Z 1 1 rfl l w hA.box hT
  obtain ⟨R, hR⟩ : ∃ R, Pl.rawP ln l S = R := ⟨_, rfl⟩
  rw [hR]
  have HR := Lib.hid hR
  clear hR hA hT
  have HC := Lib.hid hC
  clear hC
  go_enter Tryz.func59, Tryz.ntmps59
  go_wp2_with fail
  (with_reducible refine HC.out.mono ?_)
  rintro x w1 ⟨hg, h⟩
  have hr := HR.out
  rcases hE1 : Pl.wantP 1 l with e1 | ⟨t, l1⟩
  · rw [hE1] at h
    unfold Pl.rawP at hr
    rw [hE1] at hr
    obtain rfl := h
    subst hr
    exact ⟨rfl, LnK.box hg HA.out.hi, rfl⟩
  · rw [hE1] at h
    unfold Pl.rawP at hr
    rw [hE1] at hr
    obtain ⟨rfl, v, hB1, hT1⟩ := h
    have hA1 := HA.out.step hg hB1
    have HG := Lib.hid (LnK.box (N := Z.n) hg HA.out.hi)
    obtain ⟨n, hn⟩ : ∃ n, t.n = n := ⟨_, rfl⟩
    rw [show tkV t = .agg #[.int .i64 (t.k : Int), .string ⟨t.s.toArray⟩, .int .i64 n] by rw [← hn]; rfl]
    replace hr : (do Pl.endP l1; Pl.inP n 0 4294967295; .ok (Pl.addP ⟨ln, ⟨0, 0, 0, 0, 0⟩, true, Pl.u32N n, false, [], 0⟩ S)) = R := by rw [← hn]; exact hr
    have HC2 := Lib.hid (end_any A M ln _ l1 w1 hB1 hT1)
    have HC3 := Lib.hid (within_any A ln _ n 0 4294967295 w1 hB1)
    have HA1 := Lib.hid hA1
    have HR1 := Lib.hid hr
    clear hg hE1 hB1 hT1 hA1 hr HC hn
    go_wp2_with fail
    (with_reducible refine HC2.out.mono ?_)
    rintro x w2 ⟨rfl, h⟩
    have hr := HR1.out
    rcases hE2 : Pl.endP l1 with e2 | u2
    · rw [hE2] at h hr
      obtain rfl := h
      subst hr
      exact ⟨rfl, HG.out, rfl⟩
    rw [hE2] at h hr
    obtain rfl := h
    replace hr : (do Pl.inP n 0 4294967295; .ok (Pl.addP ⟨ln, ⟨0, 0, 0, 0, 0⟩, true, Pl.u32N n, false, [], 0⟩ S)) = R := hr
    have HR2 := Lib.hid hr
    clear hr hE2 HR1 HC2
    go_wp2_with fail
    (with_reducible refine HC3.out.mono ?_)
    rintro x w3 ⟨rfl, h⟩
    have hr := HR2.out
    by_cases hin : n < 0 ∨ 4294967295 < n
    · have hE3 : Pl.inP n 0 4294967295 = .error 2 := by unfold Pl.inP; rw [if_pos hin]
      rw [hE3] at h hr
      obtain rfl := h
      subst hr
      exact ⟨rfl, HG.out, rfl⟩
    have hE3 : Pl.inP n 0 4294967295 = .ok () := by unfold Pl.inP; rw [if_neg hin]
    rw [hE3] at h hr
    obtain rfl := h
    obtain ⟨m, rfl⟩ : ∃ m : Nat, n = m := ⟨n.toNat, by omega⟩
    have hm : m < 4294967296 := by omega
    have hu : IntKind.u32.wrap (m : Int) = (m : Int) := by rw [IntKind.wrap_u32]; omega
    have hbd := build_raw m
    have HC4 := Lib.hid (add_any H A ln S _ Y (pcRaw m) w3 HA1.out hN)
    have HR3 : Hid (Except.ok (Pl.addP ⟨ln, ⟨0, 0, 0, 0, 0⟩, true, m, false, [], 0⟩ S) = R) := Lib.hid (by rw [← hr]; unfold Pl.u32N; rw [show ((m : Int) % 4294967296).toNat = m by omega]; rfl)
    clear hr hE3 HR2 HC3 hin
    go_wp2_with fail
    refine HC4.out.mono ?_
    rintro x w4 ⟨hk, rfl, Z', z1, z2, z3, hA4⟩
    have HF := Lib.hid (And.intro hk (And.intro z1 (And.intro z2 (And.intro z3 hA4))))
    clear hk z1 z2 z3 hA4 HC4 hbd hu
    go_wp2_with fail
    refine bodyPost_end (results_none rfl _ _ _) rfl ?_
    rw [← HR3.out]
    exact ⟨HG.out.trans HF.out.1, rfl, Z', HF.out.2.1, HF.out.2.2.1, HF.out.2.2.2.1, HF.out.2.2.2.2⟩
end Go.Proofs.YtmmnkoeajdeldaaGreatDoor
namespace Go.Proofs.YtmmnkoeajdeldaaGreatDoor
open Go.RowKit Go.Maps Go.WideMaps
set_option linter.unusedVariables false
set_option linter.unusedSimpArgs false
attribute [local go_sem] ba_get ba_cut ba_add fld_k fld_s fld_n
set_option maxRecDepth 100000 in
set_option maxRecDepth 100000 in
set_option maxHeartbeats 1000000 in
theorem la_any (H A M ln : Nat) (S : Pl.St) (Z : AsV) (Y : List (List UInt8 × Value)) (l : List Pl.Tk) (w : World) (hA : AsAt w H A ln S Z Y) (hT : TkAt w A M Z.r l) (hN : S.pcs.length ≤ 900000) :
    Calls Tryz.prog 58 #[.pointer (some ⟨A, 0, none⟩)] w (LnQ w H A ln Z Y (Pl.laP ln l S)) := by
  obtain ⟨R, hR⟩ : ∃ R, Pl.laP ln l S = R := ⟨_, rfl⟩
  rw [hR]
  have HR0 : Hid ((do let (r, l) ← Pl.regP l; let (_, l) ← Pl.wantP 2 l; let (t, l) ← Pl.wantP 0 l; Pl.endP l; .ok (Pl.addP (Pl.pcN ln ⟨16, r, r, 0, 0⟩ t.s 2) (Pl.addP (Pl.pcN ln ⟨19, r, 0, 0, 0⟩ t.s 1) S))) = R) := Lib.hid hR
  have HA0 := Lib.hid hA
  have HT0 := Lib.hid hT
  have HG0 := Lib.hid (LnK.refl w H A Z.n)
  clear hR hA hT
  have HC0 := Lib.hid (register_any A M ln _ l w HA0.out.box HT0.out)
  go_enter Tryz.func58, Tryz.ntmps58
  go_wp2_with fail
  (with_reducible refine HC0.out.mono ?_)
  rintro x w1 ⟨hg, h⟩
  have hr := HR0.out
  rcases hE : Pl.regP l with e | ⟨r, l1⟩
  · rw [hE] at h hr
    obtain rfl := h
    subst hr
    exact ⟨rfl, HG0.out.trans (LnK.box hg HA0.out.hi), rfl⟩
  rw [hE] at h hr
  obtain ⟨rfl, hr16, v, hB1, hT1⟩ := h
  have HR1 : Hid ((do let (_, l) ← Pl.wantP 2 l1; let (t, l) ← Pl.wantP 0 l; Pl.endP l; .ok (Pl.addP (Pl.pcN ln ⟨16, r, r, 0, 0⟩ t.s 2) (Pl.addP (Pl.pcN ln ⟨19, r, 0, 0, 0⟩ t.s 1) S))) = R) := Lib.hid hr
  have HG1 := Lib.hid (HG0.out.trans (LnK.box (N := Z.n) hg HA0.out.hi))
  have HA1 := Lib.hid (HA0.out.step hg hB1)
  have HT1 := Lib.hid hT1
  clear hg hE hB1 hT1 hr HC0 HR0 HG0 HA0 HT0
  have HC1 := Lib.hid (want_any A M ln _ 2 2 rfl l1 w1 HA1.out.box HT1.out)
  go_wp2_with fail
  (with_reducible refine HC1.out.mono ?_)
  rintro x w2 ⟨hg, h⟩
  have hr := HR1.out
  rcases hE : Pl.wantP 2 l1 with e | ⟨t1, l2⟩
  · rw [hE] at h hr
    obtain rfl := h
    subst hr
    exact ⟨rfl, HG1.out.trans (LnK.box hg HA1.out.hi), rfl⟩
  rw [hE] at h hr
  obtain ⟨rfl, v, hB1, hT1⟩ := h
  have HR2 : Hid ((do let (t, l) ← Pl.wantP 0 l2; Pl.endP l; .ok (Pl.addP (Pl.pcN ln ⟨16, r, r, 0, 0⟩ t.s 2) (Pl.addP (Pl.pcN ln ⟨19, r, 0, 0, 0⟩ t.s 1) S))) = R) := Lib.hid hr
  have HG2 := Lib.hid (HG1.out.trans (LnK.box (N := Z.n) hg HA1.out.hi))
  have HA2 := Lib.hid (HA1.out.step hg hB1)
  have HT2 := Lib.hid hT1
  clear hg hE hB1 hT1 hr HC1 HR1 HG1 HA1 HT1
  rw [show tkV t1 = .agg #[.int .i64 (t1.k : Int), .string ⟨t1.s.toArray⟩, .int .i64 t1.n] from rfl]
  have HC2 := Lib.hid (want_any A M ln _ 0 0 rfl l2 w2 HA2.out.box HT2.out)
  go_wp2_with fail
  (with_reducible refine HC2.out.mono ?_)
  rintro x w3 ⟨hg, h⟩
  have hr := HR2.out
  rcases hE : Pl.wantP 0 l2 with e | ⟨t, l3⟩
  · rw [hE] at h hr
    obtain rfl := h
    subst hr
    exact ⟨rfl, HG2.out.trans (LnK.box hg HA2.out.hi), rfl⟩
  rw [hE] at h hr
  obtain ⟨rfl, v, hB1, hT1⟩ := h
  have HR3 : Hid ((do Pl.endP l3; .ok (Pl.addP (Pl.pcN ln ⟨16, r, r, 0, 0⟩ t.s 2) (Pl.addP (Pl.pcN ln ⟨19, r, 0, 0, 0⟩ t.s 1) S))) = R) := Lib.hid hr
  have HG3 := Lib.hid (HG2.out.trans (LnK.box (N := Z.n) hg HA2.out.hi))
  have HA3 := Lib.hid (HA2.out.step hg hB1)
  have HT3 := Lib.hid hT1
  clear hg hE hB1 hT1 hr HC2 HR2 HG2 HA2 HT2
  rw [show tkV t = .agg #[.int .i64 (t.k : Int), .string ⟨t.s.toArray⟩, .int .i64 t.n] from rfl]
  have HC := Lib.hid (end_any A M ln _ l3 w3 HA3.out.box HT3.out)
  go_wp2_with fail
  (with_reducible refine HC.out.mono ?_)
  rintro x wz ⟨rfl, h⟩
  have hr := HR3.out
  rcases hE : Pl.endP l3 with e | u
  · rw [hE] at h hr
    obtain rfl := h
    subst hr
    exact ⟨rfl, HG3.out, rfl⟩
  rw [hE] at h hr
  obtain rfl := h
  replace HR3 : Hid ((do .ok (Pl.addP (Pl.pcN ln ⟨16, r, r, 0, 0⟩ t.s 2) (Pl.addP (Pl.pcN ln ⟨19, r, 0, 0, 0⟩ t.s 1) S))) = R) := Lib.hid hr
  clear hr hE HC HT3
  have HC1 := Lib.hid (add_any H A ln S _ Y (⟨0, ⟨19, r, 0, 0, 0⟩, false, 0, true, t.s, 1⟩) wz HA3.out (by omega))
  go_wp2_with fail
  refine HC1.out.mono ?_
  rintro x wp ⟨hk, rfl, Z1, z1, z2, z3, hA1⟩
  have HB := Lib.hid (And.intro hk (And.intro z1 (And.intro z2 (And.intro z3 hA1))))
  have hN1 : (Pl.addP { ((⟨0, ⟨19, r, 0, 0, 0⟩, false, 0, true, t.s, 1⟩) : Pl.Pc) with line := ln } S).pcs.length ≤ 1000000 := by simp [Pl.addP]; omega
  have HC2 := Lib.hid (add_any H A ln _ Z1 Y (⟨0, ⟨16, r, r, 0, 0⟩, false, 0, true, t.s, 2⟩) wp hA1 hN1)
  clear hk z1 z2 z3 hA1 HC1 hN1
  go_wp2_with fail
  refine HC2.out.mono ?_
  rintro x wq ⟨hk, rfl, Z2, z1, z2, z3, hA2⟩
  have HD := Lib.hid (And.intro hk (And.intro z1 (And.intro z2 (And.intro z3 hA2))))
  clear hk z1 z2 z3 hA2 HC2
  go_wp2_with fail
  refine bodyPost_end (results_none rfl _ _ _) rfl ?_
  rw [← HR3.out]
  have hz := HB.out.2.1
  have hk2 := HD.out.1
  rw [hz] at hk2
  exact ⟨(HG3.out.trans HB.out.1).trans hk2, rfl, Z2, HD.out.2.1.trans hz, HD.out.2.2.1.trans HB.out.2.2.1, HD.out.2.2.2.1.trans HB.out.2.2.2.1, HD.out.2.2.2.2⟩

end Go.Proofs.YtmmnkoeajdeldaaGreatDoor
namespace Go.Proofs.YtmmnkoeajdeldaaGreatDoor
open Go.RowKit Go.Maps Go.WideMaps
set_option linter.unusedVariables false
set_option linter.unusedSimpArgs false
attribute [local go_sem] ba_get ba_cut ba_add fld_k fld_s fld_n
set_option maxRecDepth 100000 in
set_option maxRecDepth 100000 in
set_option maxHeartbeats 1000000 in
theorem li_any (H A M ln : Nat) (S : Pl.St) (Z : AsV) (Y : List (List UInt8 × Value)) (l : List Pl.Tk) (w : World) (hA : AsAt w H A ln S Z Y) (hT : TkAt w A M Z.r l) (hN : S.pcs.length ≤ 900000) :
    Calls Tryz.prog 57 #[.pointer (some ⟨A, 0, none⟩)] w (LnQ w H A ln Z Y (Pl.liP ln l S)) := by
  obtain ⟨R, hR⟩ : ∃ R, Pl.liP ln l S = R := ⟨_, rfl⟩
  rw [hR]
  have HR0 : Hid ((do let (r, l) ← Pl.regP l; let (_, l) ← Pl.wantP 2 l; let (t, l) ← Pl.wantP 1 l; Pl.endP l; Pl.inP t.n (-2147483648) 4294967295; .ok (Pl.addP (Pl.pcI ln ⟨16, r, r, 0, (Pl.u32N t.n % 65536 : Nat)⟩) (Pl.addP (Pl.pcI ln ⟨19, r, 0, 0, (Pl.u32N t.n / 65536 : Nat)⟩) S))) = R) := Lib.hid hR
  have HA0 := Lib.hid hA
  have HT0 := Lib.hid hT
  have HG0 := Lib.hid (LnK.refl w H A Z.n)
  clear hR hA hT
  have HC0 := Lib.hid (register_any A M ln _ l w HA0.out.box HT0.out)
  go_enter Tryz.func57, Tryz.ntmps57
  go_wp2_with fail
  (with_reducible refine HC0.out.mono ?_)
  rintro x w1 ⟨hg, h⟩
  have hr := HR0.out
  rcases hE : Pl.regP l with e | ⟨r, l1⟩
  · rw [hE] at h hr
    obtain rfl := h
    subst hr
    exact ⟨rfl, HG0.out.trans (LnK.box hg HA0.out.hi), rfl⟩
  rw [hE] at h hr
  obtain ⟨rfl, hr16, v, hB1, hT1⟩ := h
  have HR1 : Hid ((do let (_, l) ← Pl.wantP 2 l1; let (t, l) ← Pl.wantP 1 l; Pl.endP l; Pl.inP t.n (-2147483648) 4294967295; .ok (Pl.addP (Pl.pcI ln ⟨16, r, r, 0, (Pl.u32N t.n % 65536 : Nat)⟩) (Pl.addP (Pl.pcI ln ⟨19, r, 0, 0, (Pl.u32N t.n / 65536 : Nat)⟩) S))) = R) := Lib.hid hr
  have HG1 := Lib.hid (HG0.out.trans (LnK.box (N := Z.n) hg HA0.out.hi))
  have HA1 := Lib.hid (HA0.out.step hg hB1)
  have HT1 := Lib.hid hT1
  clear hg hE hB1 hT1 hr HC0 HR0 HG0 HA0 HT0
  have HC1 := Lib.hid (want_any A M ln _ 2 2 rfl l1 w1 HA1.out.box HT1.out)
  go_wp2_with fail
  (with_reducible refine HC1.out.mono ?_)
  rintro x w2 ⟨hg, h⟩
  have hr := HR1.out
  rcases hE : Pl.wantP 2 l1 with e | ⟨t1, l2⟩
  · rw [hE] at h hr
    obtain rfl := h
    subst hr
    exact ⟨rfl, HG1.out.trans (LnK.box hg HA1.out.hi), rfl⟩
  rw [hE] at h hr
  obtain ⟨rfl, v, hB1, hT1⟩ := h
  have HR2 : Hid ((do let (t, l) ← Pl.wantP 1 l2; Pl.endP l; Pl.inP t.n (-2147483648) 4294967295; .ok (Pl.addP (Pl.pcI ln ⟨16, r, r, 0, (Pl.u32N t.n % 65536 : Nat)⟩) (Pl.addP (Pl.pcI ln ⟨19, r, 0, 0, (Pl.u32N t.n / 65536 : Nat)⟩) S))) = R) := Lib.hid hr
  have HG2 := Lib.hid (HG1.out.trans (LnK.box (N := Z.n) hg HA1.out.hi))
  have HA2 := Lib.hid (HA1.out.step hg hB1)
  have HT2 := Lib.hid hT1
  clear hg hE hB1 hT1 hr HC1 HR1 HG1 HA1 HT1
  rw [show tkV t1 = .agg #[.int .i64 (t1.k : Int), .string ⟨t1.s.toArray⟩, .int .i64 t1.n] from rfl]
  have HC2 := Lib.hid (want_any A M ln _ 1 1 rfl l2 w2 HA2.out.box HT2.out)
  go_wp2_with fail
  (with_reducible refine HC2.out.mono ?_)
  rintro x w3 ⟨hg, h⟩
  have hr := HR2.out
  rcases hE : Pl.wantP 1 l2 with e | ⟨t, l3⟩
  · rw [hE] at h hr
    obtain rfl := h
    subst hr
    exact ⟨rfl, HG2.out.trans (LnK.box hg HA2.out.hi), rfl⟩
  rw [hE] at h hr
  obtain ⟨rfl, v, hB1, hT1⟩ := h
  have HR3 : Hid ((do Pl.endP l3; Pl.inP t.n (-2147483648) 4294967295; .ok (Pl.addP (Pl.pcI ln ⟨16, r, r, 0, (Pl.u32N t.n % 65536 : Nat)⟩) (Pl.addP (Pl.pcI ln ⟨19, r, 0, 0, (Pl.u32N t.n / 65536 : Nat)⟩) S))) = R) := Lib.hid hr
  have HG3 := Lib.hid (HG2.out.trans (LnK.box (N := Z.n) hg HA2.out.hi))
  have HA3 := Lib.hid (HA2.out.step hg hB1)
  have HT3 := Lib.hid hT1
  clear hg hE hB1 hT1 hr HC2 HR2 HG2 HA2 HT2
  rw [show tkV t = .agg #[.int .i64 (t.k : Int), .string ⟨t.s.toArray⟩, .int .i64 t.n] from rfl]
  have HC := Lib.hid (end_any A M ln _ l3 w3 HA3.out.box HT3.out)
  go_wp2_with fail
  (with_reducible refine HC.out.mono ?_)
  rintro x wz ⟨rfl, h⟩
  have hr := HR3.out
  rcases hE : Pl.endP l3 with e | u
  · rw [hE] at h hr
    obtain rfl := h
    subst hr
    exact ⟨rfl, HG3.out, rfl⟩
  rw [hE] at h hr
  obtain rfl := h
  replace HR3 : Hid ((do Pl.inP t.n (-2147483648) 4294967295; .ok (Pl.addP (Pl.pcI ln ⟨16, r, r, 0, (Pl.u32N t.n % 65536 : Nat)⟩) (Pl.addP (Pl.pcI ln ⟨19, r, 0, 0, (Pl.u32N t.n / 65536 : Nat)⟩) S))) = R) := Lib.hid hr
  clear hr hE HC HT3
  have HC := Lib.hid (within_any A ln _ t.n (-2147483648) 4294967295 wz HA3.out.box)
  go_wp2_with fail
  (with_reducible refine HC.out.mono ?_)
  rintro x wy ⟨rfl, h⟩
  have hr := HR3.out
  by_cases hin : t.n < -2147483648 ∨ 4294967295 < t.n
  · have hE : Pl.inP t.n (-2147483648) 4294967295 = .error 2 := by unfold Pl.inP; rw [if_pos hin]
    rw [hE] at h hr
    obtain rfl := h
    subst hr
    exact ⟨rfl, HG3.out, rfl⟩
  have hE : Pl.inP t.n (-2147483648) 4294967295 = .ok () := by unfold Pl.inP; rw [if_neg hin]
  rw [hE] at h hr
  obtain rfl := h
  replace HR3 : Hid ((do .ok (Pl.addP (Pl.pcI ln ⟨16, r, r, 0, (Pl.u32N t.n % 65536 : Nat)⟩) (Pl.addP (Pl.pcI ln ⟨19, r, 0, 0, (Pl.u32N t.n / 65536 : Nat)⟩) S))) = R) := Lib.hid hr
  clear hr hE HC
  obtain ⟨m, hm⟩ : ∃ m, Pl.u32N t.n = m := ⟨_, rfl⟩
  obtain ⟨n, hn⟩ : ∃ n, t.n = n := ⟨_, rfl⟩
  rw [hm] at HR3
  rw [hn] at hm hin
  have hm1 : m < 4294967296 := by rw [← hm]; unfold Pl.u32N; omega
  have hu : IntKind.u32.wrap n = (m : Int) := by rw [IntKind.wrap_u32, ← hm]; unfold Pl.u32N; omega
  clear hm hin
  have e2 : bits .and .u32 (m : Int) 65535 = (m : Int) % 65536 := by
    have := Pl.u32_low 16 m (by omega) hm1
    rw [show ((2 ^ 16 - 1 : Nat) : Int) = 65535 from rfl, show ((m % 2 ^ 16 : Nat) : Int) = (m : Int) % 65536 by omega] at this
    exact this
  rw [show (((m / 65536 : Nat)) : Int) = (m : Int) / 65536 by omega, show (((m % 65536 : Nat)) : Int) = (m : Int) % 65536 by omega] at HR3
  rw [hn]
  have HC1 := Lib.hid (add_any H A ln S _ Y (⟨0, ⟨19, r, 0, 0, ((m : Int) / 65536)⟩, false, 0, false, [], 0⟩) wy HA3.out (by omega))
  go_wp2_with fail
  refine HC1.out.mono ?_
  rintro x wp ⟨hk, rfl, Z1, z1, z2, z3, hA1⟩
  have HB := Lib.hid (And.intro hk (And.intro z1 (And.intro z2 (And.intro z3 hA1))))
  have hN1 : (Pl.addP { ((⟨0, ⟨19, r, 0, 0, ((m : Int) / 65536)⟩, false, 0, false, [], 0⟩) : Pl.Pc) with line := ln } S).pcs.length ≤ 1000000 := by simp [Pl.addP]; omega
  have HC2 := Lib.hid (add_any H A ln _ Z1 Y (⟨0, ⟨16, r, r, 0, ((m : Int) % 65536)⟩, false, 0, false, [], 0⟩) wp hA1 hN1)
  clear hk z1 z2 z3 hA1 HC1 hN1
  go_wp2_with fail
  refine HC2.out.mono ?_
  rintro x wq ⟨hk, rfl, Z2, z1, z2, z3, hA2⟩
  have HD := Lib.hid (And.intro hk (And.intro z1 (And.intro z2 (And.intro z3 hA2))))
  clear hk z1 z2 z3 hA2 HC2
  go_wp2_with fail
  refine bodyPost_end (results_none rfl _ _ _) rfl ?_
  rw [← HR3.out]
  have hz := HB.out.2.1
  have hk2 := HD.out.1
  rw [hz] at hk2
  exact ⟨(HG3.out.trans HB.out.1).trans hk2, rfl, Z2, HD.out.2.1.trans hz, HD.out.2.2.1.trans HB.out.2.2.1, HD.out.2.2.2.1.trans HB.out.2.2.2.1, HD.out.2.2.2.2⟩

end Go.Proofs.YtmmnkoeajdeldaaGreatDoor
namespace Go.Proofs.YtmmnkoeajdeldaaGreatDoor
open Go.RowKit Go.Maps Go.WideMaps
set_option linter.unusedVariables false
set_option linter.unusedSimpArgs false
attribute [local go_sem] ba_get ba_cut ba_add fld_k fld_s fld_n
theorem want_mem {k : Nat} {l r : List Pl.Tk} {t : Pl.Tk} (h : Pl.wantP k l = .ok (t, r)) : t ∈ l ∧ ∀ x ∈ r, x ∈ l := by
  cases l with
  | nil => cases h
  | cons a b =>
    simp only [Pl.wantP] at h
    split at h
    · cases h; exact ⟨by simp, fun x hx => by simp [hx]⟩
    · cases h
theorem name_ok {s : List UInt8} {q a : Nat} {S S1 : Pl.St} (h : Pl.nameP s q a S = .ok S1) : S1.pcs = S.pcs ∧ S1.data = S.data ∧ S1.rooms = S.rooms ∧ S1.names.length = S.names.length + 1 := by
  unfold Pl.nameP at h
  split at h
  · cases h
  · cases h; exact ⟨rfl, rfl, rfl, by simp⟩
theorem info_int : (Tryz.prog.info? 3).map (fun i => (i.zero, i.size, i.bytes)) = some (some (.int .i64 0), 1, 8) := by kernel_rfl
theorem AsAt.pushO {W3 W4 : World} {H A ln : Nat} {S : Pl.St} {Z : AsV} {Y : List (List UInt8 × Value)} (h : AsAt W3 H A ln S Z Y) {v : Value} {x : Nat} (hown : W4.ownsRow H 3 1 v (S.rooms.length + 1) (intC S.rooms ++ [.int .i64 (x : Int)])) (hb : Below H W3 W4)
    (hblk : ∀ G, G < W3.heap.size → Z.o.ownBlock ≠ some G → W4.heap[G]? = W3.heap[G]?) : AsAt (W4.setCell ⟨A, 4, none⟩ v) H A ln { S with rooms := S.rooms ++ [x] } { Z with o := v } Y := by
  have hg : W3.grownBy W4 Z.o.ownBlock := ⟨hb.os, hb.tape, hb.output, hb.size, fun k hk hr => hblk k hk (fun e => hr e.symm)⟩
  have hbx := h.box.below hb h.lo
  have ht : ∀ e : TypeId, e ≠ 3 → ∀ g, Z.o.ownBlock = some g → ∀ cur, W3.heap[g]? ≠ some (.cells cur e (0, 0)) := fun e he g hgg cur hc => by
    obtain ⟨cur', hc'⟩ := own_blk h.rooms hgg
    rw [hc'] at hc
    injection hc with hc
    injection hc with _ hc
    exact he hc.symm
  have hs : (W4.setCell ⟨A, 4, none⟩ v).heap.size = W4.heap.size := by simp [World.setCell]
  have hp : intC S.rooms ++ [.int .i64 (x : Int)] = intC (S.rooms ++ [x]) := by simp [intC]
  have hl : S.rooms.length + 1 = (S.rooms ++ [x]).length := by simp
  refine ⟨hbx.set4 v, h.lo, by rw [hs]; exact Nat.le_trans h.hi hb.size, AsAt.others (S := S) (Y := Y) hbx _ _ (by decide) (own_typ2 h.pcs hg (ht _ (by decide))), AsAt.others (S := S) (Y := Y) hbx _ _ (by decide) (own_typ2 h.data hg (ht _ (by decide))), ?_, MapV.others hbx _ _ (h.names.same (hb.block _ h.nlo)), h.nlo, MapV.others hbx _ _ (h.ways.same (hb.block _ h.ylo)), h.ylo, h.ny⟩
  have := AsAt.others (S := S) (Y := Y) hbx 4 v (by decide) hown
  rw [hp, hl] at this
  exact this
theorem AsAt.pushD {W3 W4 : World} {H A ln : Nat} {S : Pl.St} {Z : AsV} {Y : List (List UInt8 × Value)} (h : AsAt W3 H A ln S Z Y) {v : Value} {x : List UInt8} (hown : W4.ownsRow H 5 1 v (S.data.length + x.length) (u8C S.data ++ u8C x)) (hb : Below H W3 W4)
    (hblk : ∀ G, G < W3.heap.size → Z.d.ownBlock ≠ some G → W4.heap[G]? = W3.heap[G]?) : AsAt (W4.setCell ⟨A, 3, none⟩ v) H A ln { S with data := S.data ++ x } { Z with d := v } Y := by
  have hg : W3.grownBy W4 Z.d.ownBlock := ⟨hb.os, hb.tape, hb.output, hb.size, fun k hk hr => hblk k hk (fun e => hr e.symm)⟩
  have hbx := h.box.below hb h.lo
  have ht : ∀ e : TypeId, e ≠ 5 → ∀ g, Z.d.ownBlock = some g → ∀ cur, W3.heap[g]? ≠ some (.cells cur e (0, 0)) := fun e he g hgg cur hc => by
    obtain ⟨cur', hc'⟩ := own_blk h.data hgg
    rw [hc'] at hc
    injection hc with hc
    injection hc with _ hc
    exact he hc.symm
  have hs : (W4.setCell ⟨A, 3, none⟩ v).heap.size = W4.heap.size := by simp [World.setCell]
  have hp : u8C S.data ++ u8C x = u8C (S.data ++ x) := by simp [u8C]
  have hl : S.data.length + x.length = (S.data ++ x).length := by simp
  refine ⟨hbx.set3 v, h.lo, by rw [hs]; exact Nat.le_trans h.hi hb.size, AsAt.others (S := S) (Y := Y) hbx _ _ (by decide) (own_typ2 h.pcs hg (ht _ (by decide))), ?_, AsAt.others (S := S) (Y := Y) hbx _ _ (by decide) (own_typ2 h.rooms hg (ht _ (by decide))), MapV.others hbx _ _ (h.names.same (hb.block _ h.nlo)), h.nlo, MapV.others hbx _ _ (h.ways.same (hb.block _ h.ylo)), h.ylo, h.ny⟩
  have := AsAt.others (S := S) (Y := Y) hbx 3 v (by decide) hown
  rw [hp, hl] at this
  exact this
set_option maxRecDepth 100000 in
set_option maxHeartbeats 1000000 in
theorem room_any (H A M ln : Nat) (S : Pl.St) (Z : AsV) (Y : List (List UInt8 × Value)) (l : List Pl.Tk) (w : World) (hA : AsAt w H A ln S Z Y) (hT : TkAt w A M Z.r l) (hN : S.rooms.length ≤ 900000) (hN2 : S.names.length ≤ 900000) (hsl : ∀ t ∈ l, t.s.length ≤ 1000000 ∧ True) :
    Calls Tryz.prog 62 #[.pointer (some ⟨A, 0, none⟩)] w (LnQ w H A ln Z Y (Pl.roomP l S)) := by
  obtain ⟨R, hR⟩ : ∃ R, Pl.roomP l S = R := ⟨_, rfl⟩
  rw [hR]
  have HR0 : Hid ((do let (s, l) ← Pl.wantP 0 l; let (t, l) ← Pl.wantP 1 l; Pl.endP l; Pl.inP t.n (0) 65536; let S1 ← Pl.nameP s.s 2 S.rooms.length S; .ok { S1 with rooms := S.rooms ++ [t.n.toNat] }) = R) := Lib.hid hR
  have HA0 := Lib.hid hA
  have HT0 := Lib.hid hT
  have HG0 := Lib.hid (LnK.refl w H A Z.n)
  have HS0 : Hid (∀ x ∈ l, x ∈ l) := Lib.hid fun x hx => hx
  clear hR hA hT
  have HC0 := Lib.hid (want_any A M ln _ 0 0 rfl l w HA0.out.box HT0.out)
  go_enter Tryz.func62, Tryz.ntmps62
  go_wp2_with fail
  (with_reducible refine HC0.out.mono ?_)
  rintro x w1 ⟨hg, h⟩
  have hr := HR0.out
  rcases hE : Pl.wantP 0 l with e | ⟨s, l1⟩
  · rw [hE] at h hr
    obtain rfl := h
    subst hr
    exact ⟨rfl, HG0.out.trans (LnK.box hg HA0.out.hi), rfl⟩
  rw [hE] at h hr
  obtain ⟨rfl, v, hB1, hT1⟩ := h
  have HR1 : Hid ((do let (t, l) ← Pl.wantP 1 l1; Pl.endP l; Pl.inP t.n (0) 65536; let S1 ← Pl.nameP s.s 2 S.rooms.length S; .ok { S1 with rooms := S.rooms ++ [t.n.toNat] }) = R) := Lib.hid hr
  have HG1 := Lib.hid (HG0.out.trans (LnK.box (N := Z.n) hg HA0.out.hi))
  have HA1 := Lib.hid (HA0.out.step hg hB1)
  have HT1 := Lib.hid hT1
  have HMs : Hid (s ∈ l) := Lib.hid (HS0.out _ (want_mem hE).1)
  have HS1 : Hid (∀ x ∈ l1, x ∈ l) := Lib.hid fun x hx => HS0.out x ((want_mem hE).2 x hx)
  clear hg hE hB1 hT1 hr HC0 HR0 HG0 HA0 HT0
  rw [show tkV s = .agg #[.int .i64 (s.k : Int), .string ⟨s.s.toArray⟩, .int .i64 s.n] from rfl]
  have HC1 := Lib.hid (want_any A M ln _ 1 1 rfl l1 w1 HA1.out.box HT1.out)
  go_wp2_with fail
  (with_reducible refine HC1.out.mono ?_)
  rintro x w2 ⟨hg, h⟩
  have hr := HR1.out
  rcases hE : Pl.wantP 1 l1 with e | ⟨t, l2⟩
  · rw [hE] at h hr
    obtain rfl := h
    subst hr
    exact ⟨rfl, HG1.out.trans (LnK.box hg HA1.out.hi), rfl⟩
  rw [hE] at h hr
  obtain ⟨rfl, v, hB1, hT1⟩ := h
  have HR2 : Hid ((do Pl.endP l2; Pl.inP t.n (0) 65536; let S1 ← Pl.nameP s.s 2 S.rooms.length S; .ok { S1 with rooms := S.rooms ++ [t.n.toNat] }) = R) := Lib.hid hr
  have HG2 := Lib.hid (HG1.out.trans (LnK.box (N := Z.n) hg HA1.out.hi))
  have HA2 := Lib.hid (HA1.out.step hg hB1)
  have HT2 := Lib.hid hT1
  have HMt : Hid (t ∈ l) := Lib.hid (HS1.out _ (want_mem hE).1)
  have HS2 : Hid (∀ x ∈ l2, x ∈ l) := Lib.hid fun x hx => HS1.out x ((want_mem hE).2 x hx)
  clear hg hE hB1 hT1 hr HC1 HR1 HG1 HA1 HT1
  rw [show tkV t = .agg #[.int .i64 (t.k : Int), .string ⟨t.s.toArray⟩, .int .i64 t.n] from rfl]
  have HC := Lib.hid (end_any A M ln _ l2 w2 HA2.out.box HT2.out)
  go_wp2_with fail
  (with_reducible refine HC.out.mono ?_)
  rintro x wz ⟨rfl, h⟩
  have hr := HR2.out
  rcases hE : Pl.endP l2 with e | u
  · rw [hE] at h hr
    obtain rfl := h
    subst hr
    exact ⟨rfl, HG2.out, rfl⟩
  rw [hE] at h hr
  obtain rfl := h
  replace HR2 : Hid ((do Pl.inP t.n (0) 65536; let S1 ← Pl.nameP s.s 2 S.rooms.length S; .ok { S1 with rooms := S.rooms ++ [t.n.toNat] }) = R) := Lib.hid hr
  clear hr hE HC HT2
  have HC := Lib.hid (within_any A ln _ t.n (0) 65536 wz HA2.out.box)
  go_wp2_with fail
  (with_reducible refine HC.out.mono ?_)
  rintro x wy ⟨rfl, h⟩
  have hr := HR2.out
  by_cases hin : t.n < 0 ∨ 65536 < t.n
  · have hE : Pl.inP t.n (0) 65536 = .error 2 := by unfold Pl.inP; rw [if_pos hin]
    rw [hE] at h hr
    obtain rfl := h
    subst hr
    exact ⟨rfl, HG2.out, rfl⟩
  have hE : Pl.inP t.n (0) 65536 = .ok () := by unfold Pl.inP; rw [if_neg hin]
  rw [hE] at h hr
  obtain rfl := h
  replace HR2 : Hid ((do let S1 ← Pl.nameP s.s 2 S.rooms.length S; .ok { S1 with rooms := S.rooms ++ [t.n.toNat] }) = R) := Lib.hid hr
  clear hr hE HC
  obtain ⟨m, hm⟩ : ∃ m : Nat, t.n = m := ⟨t.n.toNat, by omega⟩
  have HC := Lib.hid (name_any H A ln S _ Y s.s 2 S.rooms.length 2 _ rfl rfl wy HA2.out (hsl s HMs.out).1 (by omega))
  have hrow := HA2.out.rooms
  obtain ⟨oA, oc, hoe⟩ := own_form' hrow
  have h4 : (wy).cell? ⟨A, 4, none⟩ = some (.slice oA S.rooms.length oc) := by rw [← hoe]; exact HA2.out.box.c4
  clear hrow
  go_wp2_with fail
  (with_reducible refine HC.out.mono ?_)
  rintro x wn ⟨hk, h⟩
  have hr := HR2.out
  rcases hE : Pl.nameP s.s 2 S.rooms.length S with e | S1
  · rw [hE] at h hr
    obtain rfl := h
    subst hr
    exact ⟨rfl, HG2.out.trans hk, rfl⟩
  rw [hE] at h hr
  obtain ⟨rfl, hA1⟩ := h
  have hno := name_ok hE
  have HR9 : Hid (Except.ok { S1 with rooms := S1.rooms ++ [m] } = R) := Lib.hid (by rw [← hr, hno.2.2.1, hm]; rfl)
  have hlo := hA1.box.lt
  have h41 := hA1.box.c4
  have hl1 : S1.rooms.length = S.rooms.length := by rw [hno.2.2.1]
  have HX := Lib.hid (And.intro hk (And.intro hA1 hl1))
  have hrow := hA1.rooms
  rw [hoe, hl1] at hrow
  rw [hoe] at h41
  have hhi := hA1.hi
  clear hk hA1 hr hE hno hl1 HC h4 hm hin
  have HH := Lib.hid hhi
  go_upto_region 5 with (fail)
  go_wp2_with (at_builtin; refine push_one_g rfl (.tmp 27) (.tmp 29) 60 rfl H 3 (.int .i64 0) 8 Tryz.underlying60 info_int rfl wn _ _ _ (.int .i64 (m : Int)) rfl hrow rfl rfl (by omega) (by decide) HH.out ?_; intro g c w2 hown hb2 hblk; have hbx := HX.out.2.1.box.below hb2 HX.out.2.1.lo; have h42 := hbx.c4; have hf4 := hbx.froz 4; have hlo2 := hbx.lt; have HO := Lib.hid (And.intro hown (And.intro hb2 hblk)); clear hown hb2 hblk hbx)
  refine bodyPost_end (results_none rfl _ _ _) rfl ?_
  rw [← HR9.out]
  have hf := HX.out.2.1.pushO (v := .slice (some ⟨g, 0, none⟩) (S.rooms.length + 1) c) (x := m) (by rw [HX.out.2.2]; exact HO.out.1) HO.out.2.1 (fun G hG hne => (HO.out.2.2 G hG (by rw [← hoe]; exact hne)).1)
  have k2 : LnK wn w2 H A Z.n := ⟨HO.out.2.1.os, HO.out.2.1.tape, HO.out.2.1.output, HO.out.2.1.size, fun k h1 _ _ => HO.out.2.1.block k h1⟩
  have k3 : LnK w2 (w2.setCell ⟨A, 4, none⟩ (.slice (some ⟨g, 0, none⟩) (S.rooms.length + 1) c)) H A Z.n := ⟨rfl, rfl, rfl, by simp [World.setCell], fun k _ h2 _ => Below.heap_setCell _ _ _ _ (by show k ≠ A; exact h2)⟩
  exact ⟨((HG2.out.trans HX.out.1).trans k2).trans k3, rfl, ⟨v, Z.p, Z.d, .slice (some ⟨g, 0, none⟩) (S.rooms.length + 1) c, Z.s, Z.n, Z.y⟩, rfl, rfl, rfl, hf⟩

end Go.Proofs.YtmmnkoeajdeldaaGreatDoor
namespace Go.Proofs.YtmmnkoeajdeldaaGreatDoor
open Go.RowKit Go.Maps Go.WideMaps
set_option linter.unusedVariables false
set_option linter.unusedSimpArgs false
attribute [local go_sem] ba_get ba_cut ba_add fld_k fld_s fld_n
theorem info_u8a : (Tryz.prog.info? 5).map (fun i => (i.zero, i.size, i.bytes)) = some (some (.int .u8 0), 1, 1) := by kernel_rfl
theorem strC_u8 (q : List UInt8) : Lib.strCells ⟨q.toArray⟩ = u8C q := by simp [Lib.strCells, u8C]
set_option maxRecDepth 100000 in
set_option maxHeartbeats 1000000 in
theorem text_any (H A M ln : Nat) (S : Pl.St) (Z : AsV) (Y : List (List UInt8 × Value)) (l : List Pl.Tk) (w : World) (hA : AsAt w H A ln S Z Y) (hT : TkAt w A M Z.r l) (hN : S.data.length ≤ 900000000) (hN2 : S.names.length ≤ 900000) (hsl : ∀ t ∈ l, t.s.length ≤ 1000000 ∧ True) :
    Calls Tryz.prog 60 #[.pointer (some ⟨A, 0, none⟩)] w (LnQ w H A ln Z Y (Pl.textP l S)) := by
  obtain ⟨R, hR⟩ : ∃ R, Pl.textP l S = R := ⟨_, rfl⟩
  rw [hR]
  have HR0 : Hid ((do let (s, l) ← Pl.wantP 0 l; let (b, l) ← Pl.wantP 6 l; Pl.endP l; let S1 ← Pl.nameP s.s 1 S.data.length S; .ok { S1 with data := S.data ++ b.s }) = R) := Lib.hid hR
  have HA0 := Lib.hid hA
  have HT0 := Lib.hid hT
  have HG0 := Lib.hid (LnK.refl w H A Z.n)
  have HS0 : Hid (∀ x ∈ l, x ∈ l) := Lib.hid fun x hx => hx
  clear hR hA hT
  have HC0 := Lib.hid (want_any A M ln _ 0 0 rfl l w HA0.out.box HT0.out)
  go_enter Tryz.func60, Tryz.ntmps60
  go_wp2_with fail
  (with_reducible refine HC0.out.mono ?_)
  rintro x w1 ⟨hg, h⟩
  have hr := HR0.out
  rcases hE : Pl.wantP 0 l with e | ⟨s, l1⟩
  · rw [hE] at h hr
    obtain rfl := h
    subst hr
    exact ⟨rfl, HG0.out.trans (LnK.box hg HA0.out.hi), rfl⟩
  rw [hE] at h hr
  obtain ⟨rfl, v, hB1, hT1⟩ := h
  have HR1 : Hid ((do let (b, l) ← Pl.wantP 6 l1; Pl.endP l; let S1 ← Pl.nameP s.s 1 S.data.length S; .ok { S1 with data := S.data ++ b.s }) = R) := Lib.hid hr
  have HG1 := Lib.hid (HG0.out.trans (LnK.box (N := Z.n) hg HA0.out.hi))
  have HA1 := Lib.hid (HA0.out.step hg hB1)
  have HT1 := Lib.hid hT1
  have HMs : Hid (s ∈ l) := Lib.hid (HS0.out _ (want_mem hE).1)
  have HS1 : Hid (∀ x ∈ l1, x ∈ l) := Lib.hid fun x hx => HS0.out x ((want_mem hE).2 x hx)
  clear hg hE hB1 hT1 hr HC0 HR0 HG0 HA0 HT0
  rw [show tkV s = .agg #[.int .i64 (s.k : Int), .string ⟨s.s.toArray⟩, .int .i64 s.n] from rfl]
  have HC1 := Lib.hid (want_any A M ln _ 6 6 rfl l1 w1 HA1.out.box HT1.out)
  go_wp2_with fail
  (with_reducible refine HC1.out.mono ?_)
  rintro x w2 ⟨hg, h⟩
  have hr := HR1.out
  rcases hE : Pl.wantP 6 l1 with e | ⟨b, l2⟩
  · rw [hE] at h hr
    obtain rfl := h
    subst hr
    exact ⟨rfl, HG1.out.trans (LnK.box hg HA1.out.hi), rfl⟩
  rw [hE] at h hr
  obtain ⟨rfl, v, hB1, hT1⟩ := h
  have HR2 : Hid ((do Pl.endP l2; let S1 ← Pl.nameP s.s 1 S.data.length S; .ok { S1 with data := S.data ++ b.s }) = R) := Lib.hid hr
  have HG2 := Lib.hid (HG1.out.trans (LnK.box (N := Z.n) hg HA1.out.hi))
  have HA2 := Lib.hid (HA1.out.step hg hB1)
  have HT2 := Lib.hid hT1
  have HMb : Hid (b ∈ l) := Lib.hid (HS1.out _ (want_mem hE).1)
  have HS2 : Hid (∀ x ∈ l2, x ∈ l) := Lib.hid fun x hx => HS1.out x ((want_mem hE).2 x hx)
  clear hg hE hB1 hT1 hr HC1 HR1 HG1 HA1 HT1
  rw [show tkV b = .agg #[.int .i64 (b.k : Int), .string ⟨b.s.toArray⟩, .int .i64 b.n] from rfl]
  have HC := Lib.hid (end_any A M ln _ l2 w2 HA2.out.box HT2.out)
  go_wp2_with fail
  (with_reducible refine HC.out.mono ?_)
  rintro x wz ⟨rfl, h⟩
  have hr := HR2.out
  rcases hE : Pl.endP l2 with e | u
  · rw [hE] at h hr
    obtain rfl := h
    subst hr
    exact ⟨rfl, HG2.out, rfl⟩
  rw [hE] at h hr
  obtain rfl := h
  replace HR2 : Hid ((do let S1 ← Pl.nameP s.s 1 S.data.length S; .ok { S1 with data := S.data ++ b.s }) = R) := Lib.hid hr
  clear hr hE HC HT2
  have HC := Lib.hid (name_any H A ln S _ Y s.s 1 S.data.length 1 _ rfl rfl wz HA2.out (hsl s HMs.out).1 (by omega))
  have hrow := HA2.out.data
  obtain ⟨oA, oc, hoe⟩ := own_form' hrow
  have h4 : (wz).cell? ⟨A, 3, none⟩ = some (.slice oA S.data.length oc) := by rw [← hoe]; exact HA2.out.box.c3
  clear hrow
  go_wp2_with fail
  (with_reducible refine HC.out.mono ?_)
  rintro x wn ⟨hk, h⟩
  have hr := HR2.out
  rcases hE : Pl.nameP s.s 1 S.data.length S with e | S1
  · rw [hE] at h hr
    obtain rfl := h
    subst hr
    exact ⟨rfl, HG2.out.trans hk, rfl⟩
  rw [hE] at h hr
  obtain ⟨rfl, hA1⟩ := h
  have hno := name_ok hE
  have HR9 : Hid (Except.ok { S1 with data := S1.data ++ b.s } = R) := Lib.hid (by rw [← hr, hno.2.1]; rfl)
  have hlo := hA1.box.lt
  have h41 := hA1.box.c3
  have hl1 : S1.data.length = S.data.length := by rw [hno.2.1]
  have HX := Lib.hid (And.intro hk (And.intro hA1 hl1))
  have hrow := hA1.data
  rw [hoe, hl1] at hrow
  rw [hoe] at h41
  have hbl := (hsl b HMb.out).1
  obtain ⟨q, hq⟩ : ∃ q, b.s = q := ⟨_, rfl⟩
  have hsz : (⟨q.toArray⟩ : ByteArray).size = q.length := by simp [ByteArray.size]
  rw [hq] at HR9 hbl
  obtain ⟨i0, hi0, hz0, hz1, hz2⟩ := info_parts info_u8a
  have HH := Lib.hid (And.intro hA1.hi (And.intro hi0 (And.intro hz0 (And.intro hz1 (And.intro hz2 (And.intro hsz hrow))))))
  clear hk hA1 hr hE hno hl1 HC h4 hi0 hz0 hz1 hz2 hsz hrow
  go_upto_region 4 with (fail)
  clear hq
  go_wp2_with (at_builtin; refine Lib.wpList_append_own_string _ rfl (.tmp 24) (.tmp 25) 59 9 rfl H 5 i0 Tryz.underlying59 Tryz.underlying9 HH.out.2.1 HH.out.2.2.1 HH.out.2.2.2.1 HH.out.2.2.2.2.1 _ _ _ rfl HH.out.2.2.2.2.2.2 ⟨q.toArray⟩ rfl (by rw [HH.out.2.2.2.2.2.1]; simp only [maxLen]; omega) (by rw [HH.out.2.2.2.2.2.1]; omega) HH.out.1 ?_; intro v2 w2 hown hg2 hnn; obtain ⟨vA, vc, rfl⟩ := own_form' hown; have hb2 := below_own HH.out.2.2.2.2.2.2 hg2 HH.out.1; have hbx := HX.out.2.1.box.below hb2 HX.out.2.1.lo; have h42 := hbx.c3; have hf4 := hbx.froz 3; have hlo2 := hbx.lt; have HO := Lib.hid (And.intro hown (And.intro hb2 hg2)); clear hown hb2 hg2 hbx hnn)
  refine bodyPost_end (results_none rfl _ _ _) rfl ?_
  rw [← HR9.out]
  have ho := HO.out.1
  rw [HH.out.2.2.2.2.2.1, ← HX.out.2.2] at ho
  have hf := HX.out.2.1.pushD (x := q) (by rw [← strC_u8]; exact ho) HO.out.2.1 (fun G hG hne => HO.out.2.2.block G hG (fun e => hne (by rw [← hoe] at e; exact e.symm)))
  have k2 : LnK wn w2 H A Z.n := ⟨HO.out.2.1.os, HO.out.2.1.tape, HO.out.2.1.output, HO.out.2.1.size, fun k h1 _ _ => HO.out.2.1.block k h1⟩
  have k3 : ∀ u, LnK w2 (w2.setCell ⟨A, 3, none⟩ u) H A Z.n := fun u => ⟨rfl, rfl, rfl, by simp [World.setCell], fun k _ h2 _ => Below.heap_setCell _ _ _ _ (by show k ≠ A; exact h2)⟩
  rw [HX.out.2.2] at hf
  exact ⟨((HG2.out.trans HX.out.1).trans k2).trans (k3 _), rfl, ⟨v, Z.p, _, Z.o, Z.s, Z.n, Z.y⟩, rfl, rfl, rfl, hf⟩

end Go.Proofs.YtmmnkoeajdeldaaGreatDoor
namespace Go.Proofs.YtmmnkoeajdeldaaGreatDoor
open Go.RowKit Go.Maps Go.WideMaps
set_option linter.unusedVariables false
set_option linter.unusedSimpArgs false
attribute [local go_sem] ba_get ba_cut ba_add fld_k fld_s fld_n
set_option maxRecDepth 100000 in
theorem up4_any (n : Nat) (v : Int) (hv : v = (n : Int)) (w : World) (h : n ≤ 4611686018427387000) : Calls Tryz.prog 40 #[.int .i64 v, .int .i64 4] w (Ret (.int .i64 (Pl.up n 4 : Nat)) w) := by
  subst hv
  obtain ⟨m, hm⟩ : ∃ m : Int, (n : Int) + 4 - 1 = m := ⟨_, rfl⟩
  have h1 : IntKind.i64.wrap ((n : Int) + 4) = (n : Int) + 4 := IntWalk.i64_in _ (by omega)
  have hd : m.tdiv 4 = ((n + 3) / 4 : Nat) := by rw [Int.tdiv_eq_ediv_of_nonneg (by omega)]; omega
  obtain ⟨q, hq⟩ : ∃ q : Nat, (n + 3) / 4 = q := ⟨_, rfl⟩
  rw [hq] at hd
  have hq4 : q ≤ 4611686018427387904 / 4 := by omega
  have h2 : wrap64 ((q : Int) * 4) = (q : Int) * 4 := by unfold wrap64; omega
  have HR := Lib.hid (show Pl.up n 4 = q * 4 by unfold Pl.up; rw [show n + 4 - 1 = n + 3 by omega, hq])
  have HQ := Lib.hid h2
  rw [HR.out]
  clear hq h2
  go_enter Tryz.func40, Tryz.ntmps40
  go_wp2_with fail
  go_ret
  refine ⟨?_, rfl⟩
  show Ending.returned (.int .i64 ((q : Int) * 4)) = _
  rw [Int.natCast_mul]
  rfl
set_option maxRecDepth 100000 in
theorem up128_any (n : Nat) (v : Int) (hv : v = (n : Int)) (w : World) (h : n ≤ 4611686018427387000) : Calls Tryz.prog 40 #[.int .i64 v, .int .i64 128] w (Ret (.int .i64 (Pl.up n 128 : Nat)) w) := by
  subst hv
  obtain ⟨m, hm⟩ : ∃ m : Int, (n : Int) + 128 - 1 = m := ⟨_, rfl⟩
  have h1 : IntKind.i64.wrap ((n : Int) + 128) = (n : Int) + 128 := IntWalk.i64_in _ (by omega)
  have hd : m.tdiv 128 = ((n + 127) / 128 : Nat) := by rw [Int.tdiv_eq_ediv_of_nonneg (by omega)]; omega
  obtain ⟨q, hq⟩ : ∃ q : Nat, (n + 127) / 128 = q := ⟨_, rfl⟩
  rw [hq] at hd
  have hq4 : q ≤ 4611686018427387904 / 128 := by omega
  have h2 : wrap64 ((q : Int) * 128) = (q : Int) * 128 := by unfold wrap64; omega
  have HR := Lib.hid (show Pl.up n 128 = q * 128 by unfold Pl.up; rw [show n + 128 - 1 = n + 127 by omega, hq])
  have HQ := Lib.hid h2
  rw [HR.out]
  clear hq h2
  go_enter Tryz.func40, Tryz.ntmps40
  go_wp2_with fail
  go_ret
  refine ⟨?_, rfl⟩
  show Ending.returned (.int .i64 ((q : Int) * 128)) = _
  rw [Int.natCast_mul]
  rfl
/-- An instruction's number fits: that number; else what is thrown. -/
def FitQ (w : World) (ln : Nat) (E : Except Nat Int) (x : Ending) (w' : World) : Prop := Below w.heap.size w w' ∧ match E with
  | .error e => Thrown e ln x
  | .ok n => x = .returned (.int .i32 n)
set_option maxRecDepth 100000 in
theorem fit_any (A ln : Nat) (Z : AsV) (x : Pl.Ins) (n : Int) (w : World) (H : AsB w A ln Z) (hx : x.op < 256 ∧ x.a < 256 ∧ x.b < 256 ∧ x.c < 256) : Calls Tryz.prog 107 #[.pointer (some ⟨A, 0, none⟩), insV x, .int .i64 n] w (FitQ w ln (Pl.fitP x n)) := by
  obtain ⟨R, hR⟩ : ∃ R, Pl.fitP x n = R := ⟨_, rfl⟩
  rw [hR]
  have HR := Lib.hid hR
  have HH := Lib.hid H
  have hAs := H.lt
  clear hR
  unfold insV
  go_enter Tryz.func107, Tryz.ntmps107
  go_wp2_with fail
  generalize hW : w.alloc _ = W1
  have hb1 : Below w.heap.size w W1 := by rw [← hW]; exact (Below.refl _ _).alloc (Nat.le_refl _) _
  have hB1 := H.below hb1 H.lt
  have hz1 : W1.heap[w.heap.size]? = some (.cells #[.int .u8 (x.op : Int), .int .u8 (x.a : Int), .int .u8 (x.b : Int), .int .u8 (x.c : Int), .int .i32 x.imm] 33 (0, 0)) := by rw [← hW]; exact heap_alloc_new _ _
  clear hW H
  (with_reducible refine (within_any A ln _ n (-2147483648) 2147483647 W1 hB1).mono ?_)
  rintro y w2 ⟨rfl, h⟩
  have hr := HR.out
  by_cases hin : n < -2147483648 ∨ 2147483647 < n
  · have hE : Pl.inP n (-2147483648) 2147483647 = .error 2 := by unfold Pl.inP; rw [if_pos hin]
    unfold Pl.fitP at hr
    rw [hE] at h hr
    obtain rfl := h
    subst hr
    exact ⟨rfl, hb1, rfl⟩
  have hE : Pl.inP n (-2147483648) 2147483647 = .ok () := by unfold Pl.inP; rw [if_neg hin]
  unfold Pl.fitP at hr
  rw [hE] at h hr
  obtain rfl := h
  replace hr : (if Pl.encE { x with imm := n } = 0 then Except.ok n else .error (Pl.encE { x with imm := n })) = R := hr
  have HR1 := Lib.hid hr
  have hn : IntKind.i32.wrap n = n := IntWalk.i32_in _ (by omega)
  have hok : Pl.InsOk { x with imm := n } := ⟨hx.1, hx.2.1, hx.2.2.1, hx.2.2.2, by show -2147483648 ≤ n; omega, by show n ≤ 2147483647; omega⟩
  have HE := Lib.hid (fun W => enc_any { x with imm := n } W hok)
  have hc : ∀ i, w2.cell? ⟨w.heap.size, i, none⟩ = (#[.int .u8 (x.op : Int), .int .u8 (x.a : Int), .int .u8 (x.b : Int), .int .u8 (x.c : Int), .int .i32 x.imm] : Array Value)[i]? := fun i => cell_row w2 _ i _ _ hz1
  have c0 : w2.cell? ⟨w.heap.size, 0, none⟩ = some (.int .u8 (x.op : Int)) := hc 0
  have c1 : w2.cell? ⟨w.heap.size, 1, none⟩ = some (.int .u8 (x.a : Int)) := hc 1
  have c2 : w2.cell? ⟨w.heap.size, 2, none⟩ = some (.int .u8 (x.b : Int)) := hc 2
  have c3 : w2.cell? ⟨w.heap.size, 3, none⟩ = some (.int .u8 (x.c : Int)) := hc 3
  have c4 : w2.cell? ⟨w.heap.size, 4, none⟩ = some (.int .i32 x.imm) := hc 4
  have hf4 := frozen_of w2 w.heap.size 4 _ _ hz1
  clear hc hr hE HR hok hin
  obtain ⟨B, hB⟩ : ∃ B, w.heap.size = B := ⟨_, rfl⟩
  rw [hB] at c0 c1 c2 c3 c4 hf4 hz1 hb1 ⊢
  go_wp2_with fail
  generalize hW3 : w2.setCell _ _ = W3
  have hb3 : Below B w2 W3 := by rw [← hW3]; exact (Below.refl _ _).setCell (p := ⟨B, 4, none⟩) (Nat.le_refl _) _
  have c43 : W3.cell? ⟨B, 4, none⟩ = some (.int .i32 n) := by rw [← hW3, cell_row _ B 4 _ _ (set_at w2 B 4 _ _ _ hz1)]; rfl
  have hB3 := hB1.below hb3 (by omega)
  have hs3 : B < W3.heap.size := by rw [← hW3]; have := blk_lt hz1; simpa [World.setCell] using this
  clear hW3 c0 c1 c2 c3 c4 hf4 hz1
  refine (HE.out _).mono ?_
  rintro e w3 ⟨v, rfl, rfl, hb4⟩
  have c44 := (hb4.cell (p := ⟨B, 4, none⟩) hs3).trans c43
  have hB4 := hB3.below hb4 hB3.lt
  have hbE : Below B w w3 := (hb1.trans hb3).trans (hb4.mono (Nat.le_of_lt hs3))
  have hs4 : B < w3.heap.size := Nat.lt_of_lt_of_le hs3 hb4.size
  obtain ⟨E, hE⟩ : ∃ E, Pl.encE { x with imm := n } = E := ⟨_, rfl⟩
  obtain ⟨G, hG⟩ : ∃ G, Pl.encW { x with imm := n } = G := ⟨_, rfl⟩
  rw [show encV { x with imm := n } = .tuple #[.int .u32 (G : Int), .int .i64 (E : Int)] by rw [← hE, ← hG]; rfl]
  have hr := HR1.out
  rw [hE] at hr
  have HR2 := Lib.hid hr
  have HX := Lib.hid hbE
  clear hE hG hr HE c43 hB3 hb3 hs3 hbE hb1 hB1 HR1 hn hb4
  by_cases h0 : E = 0
  · subst h0
    go_wp2_with fail
    go_ret
    rw [← HR2.out]
    exact ⟨by rw [hB]; exact HX.out, rfl⟩
  · have hne : ((E : Int) != 0) = true := by simp; omega
    have hr : R = .error E := by rw [← HR2.out, if_neg h0]
    go_wp2_with fail
    (with_reducible refine (throw_any A ln _ E _ rfl _ hB4).mono ?_)
    rintro e w4 ⟨rfl, rfl⟩
    subst hr
    exact ⟨rfl, by rw [hB]; exact HX.out, rfl⟩
end Go.Proofs.YtmmnkoeajdeldaaGreatDoor
