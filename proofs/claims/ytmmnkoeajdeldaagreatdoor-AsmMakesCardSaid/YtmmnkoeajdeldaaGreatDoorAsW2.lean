/- The assembler's register: the next token, one of sixteen. -/
import Derived.Test.YtmmnkoeajdeldaaGreatDoorAsW1
import Derived.Test.YtmmnkoeajdeldaaGreatDoorLib
namespace Go.Proofs.YtmmnkoeajdeldaaGreatDoor
open Go.RowKit Go.Maps Go.WideMaps
set_option linter.unusedVariables false
set_option linter.unusedSimpArgs false
attribute [local go_sem] ba_get ba_cut ba_add fld_k fld_s fld_n
/-- A register was taken: what is left. -/
def RgQ (w : World) (A M ln : Nat) (Z : AsV) (E : Except Nat (Nat × List Pl.Tk)) (x : Ending) (w' : World) : Prop :=
  w.grownBy w' (some A) ∧ match E with
    | .error e => Thrown e ln x
    | .ok (i, r) => x = .returned (.int .u8 (i : Int)) ∧ i < 16 ∧ ∃ v, AsB w' A ln { Z with r := v } ∧ TkAt w' A M v r
def regE (r : List Pl.Tk) : Option Nat → Except Nat (Nat × List Pl.Tk)
  | some i => .ok (i, r)
  | none => .error 3
theorem regP_eq (l : List Pl.Tk) : Pl.regP l = match Pl.wantP 0 l with | .error e => .error e | .ok (t, r) => regE r (Pl.regN t.s) := by
  unfold Pl.regP
  cases Pl.wantP 0 l with
  | error e => rfl
  | ok y => obtain ⟨t, r⟩ := y; show (match Pl.regN t.s with | some i => Except.ok (i, r) | none => .error 3) = _; simp only; cases Pl.regN t.s <;> rfl
theorem itoa_nat (k : Nat) : Lib.itoa (k : Int) = Lib.decDigits k := by unfold Lib.itoa; rw [if_neg (by omega)]; simp
set_option maxRecDepth 100000 in
theorem register_any (A M ln : Nat) (Z : AsV) (l : List Pl.Tk) (w : World) (H : AsB w A ln Z) (hT : TkAt w A M Z.r l) :
    Calls Tryz.prog 92 #[.pointer (some ⟨A, 0, none⟩)] w (RgQ w A M ln Z (Pl.regP l)) := by
  have HC := Lib.hid (want_any A M ln Z 0 0 rfl l w H hT)
  obtain ⟨E, hE⟩ : ∃ E, Pl.wantP 0 l = E := ⟨_, rfl⟩
  rw [regP_eq, hE]
  rw [hE] at HC
  clear hE H hT
  rcases E with ee | ⟨t, r⟩
  · go_enter Tryz.func92, Tryz.ntmps92
    go_wp2_with fail
    (with_reducible refine HC.out.mono ?_)
    rintro e w1 ⟨hg, rfl⟩
    exact ⟨rfl, hg, rfl⟩
  · obtain ⟨s, hs⟩ : ∃ s, t.s = s := ⟨_, rfl⟩
    simp only [hs]
    obtain ⟨R, hR⟩ : ∃ R, Pl.regN s = R := ⟨_, rfl⟩
    rw [hR]
    have HS := Lib.hid (And.intro hs hR)
    clear hs hR
    go_enter Tryz.func92, Tryz.ntmps92
    go_wp2_with fail
    (with_reducible refine HC.out.mono ?_)
    rintro e w1 ⟨hg, rfl, v, hB1, hT1⟩
    have HX := Lib.hid (And.intro hg (And.intro hB1 hT1))
    have HI : Hid (Pl.regF s 16 0 = R) := Lib.hid HS.out.2
    rw [show tkV t = .agg #[.int .i64 (t.k : Int), .string ⟨s.toArray⟩, .int .i64 t.n] by rw [← HS.out.1]; rfl]
    clear hg hB1 hT1 HC
    go_wp2_with fail
    go_loopw [8] (fun i wr => ∃ k : Nat, k ≤ 16 ∧ i = .int .i64 (k : Int) ∧ wr = w1 ∧ Hid (Pl.regF s (16 - k) k = R)) (fun i _ => 16 - (intOf i).toNat)
    case atStart => exact ⟨0, by omega, rfl, rfl, HI⟩
    case round =>
      obtain ⟨k, hk, rfl, rfl, HK⟩ := hrel
      by_cases hk16 : k < 16
      · have hc := fun W => Tryz.strconv_Itoa_small k (by omega) W
        have hDl : (Lib.decDigits k).length ≤ 20 := by have := (Pl.itoa_len (v := (k : Int)) ⟨by omega, by omega⟩).2; rwa [itoa_nat] at this
        obtain ⟨D, hD⟩ : ∃ D, Lib.decDigits k = D := ⟨_, rfl⟩
        rw [hD] at hc hDl
        have hstep : Pl.regF s (16 - k) k = if s = 114 :: D then some k else Pl.regF s (16 - (k + 1)) (k + 1) := by
          rw [show 16 - k = (16 - (k + 1)) + 1 by omega]
          simp only [Pl.regF]
          rw [itoa_nat, hD]
        have HST := Lib.hid hstep
        clear hstep hD
        by_cases hsD : s = 114 :: D
        · have hb : (s == 114 :: D) = true := by simpa using hsD
          have HN := Lib.hid hsD
          clear hsD
          go_wp2_with fail
          (with_reducible refine (hc _).mono ?_)
          rintro e w2 ⟨rfl, rfl⟩
          go_wp2_with fail
          go_ret
          have hR : R = some k := by rw [← HK.out, HST.out, if_pos HN.out]
          rw [hR]
          exact ⟨HX.out.1, rfl, hk16, v, HX.out.2⟩
        · have hb : (s == 114 :: D) = false := by simpa using hsD
          have HN := Lib.hid hsD
          clear hsD
          go_wp2_with fail
          (with_reducible refine (hc _).mono ?_)
          rintro e w2 ⟨rfl, rfl⟩
          go_wp2_with fail
          exact ⟨⟨k + 1, by omega, ret_i (by omega), trivial, Lib.hid (by rw [← HK.out, HST.out, if_neg HN.out])⟩, by simp only [intOf]; omega⟩
      · obtain rfl : k = 16 := by omega
        go_wp2_with fail
        (with_reducible refine (throw_any A ln _ 3 3 rfl _ HX.out.2.1).mono ?_)
        rintro e w2 ⟨rfl, rfl⟩
        have hR : R = none := by rw [← HK.out]; rfl
        rw [hR]
        exact ⟨rfl, HX.out.1, rfl⟩
end Go.Proofs.YtmmnkoeajdeldaaGreatDoor
