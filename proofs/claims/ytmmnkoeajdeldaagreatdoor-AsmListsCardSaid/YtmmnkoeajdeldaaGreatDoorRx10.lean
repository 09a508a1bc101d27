/- The document's Dec, of the assembler's chapter. The document's decimal texts, registers, names and texts of instructions (chapter 10). No condition. The document's text of an instruction. -/
import Derived.Test.YtmmnkoeajdeldaaGreatDoorBase
import Derived.Test.YtmmnkoeajdeldaaGreatDoorNumPlain
import Derived.Test.YtmmnkoeajdeldaaGreatDoorIsaR2
import Derived.Test.YtmmnkoeajdeldaaGreatDoorIsaT
namespace Go.Proofs.YtmmnkoeajdeldaaGreatDoor
open Go.RowKit
set_option linter.unusedVariables false
set_option linter.unusedSimpArgs false
attribute [local go_sem] ba_get ba_cut ba_add
theorem sign_one : ∀ k, k < 10 → (([48, 49, 50, 51, 52, 53, 54, 55, 56, 57] : List UInt8).drop k).take 1 = [UInt8.ofNat (48 + k)] := by decide
set_option maxRecDepth 100000 in
set_option maxHeartbeats 2000000 in
theorem rdec11_ind : ∀ (f n : Nat) (w : World), n ≤ 1000000000000 → n ≤ f → Calls Tryz.prog 14 #[.int .i64 (n : Int)] w (Ret (.string ⟨(Lib.decDigits n).toArray⟩) w) := by
  intro f
  induction f with
  | zero =>
    intro n w hn hf
    obtain rfl : n = 0 := by omega
    go_enter Tryz.func14, Tryz.ntmps14
    go_wp2_with fail
    go_ret
    exact ⟨by rw [Pl.dd_small (by omega)]; rfl, rfl⟩
  | succ f ih =>
    intro n w hn hf
    by_cases h : n < 10
    · have hs := sign_one n h
      have hcut : (⟨#[48, 49, 50, 51, 52, 53, 54, 55, 56, 57]⟩ : ByteArray).extract n (n + 1) = ⟨#[UInt8.ofNat (48 + n)]⟩ := by
        have e := ba_cut [48, 49, 50, 51, 52, 53, 54, 55, 56, 57] n (n + 1)
        rw [Nat.add_sub_cancel_left, hs] at e
        exact e
      have hsl : ∀ W', (Instr.slice 9 (.string ⟨#[48, 49, 50, 51, 52, 53, 54, 55, 56, 57]⟩) (some (.int .i64 (n : Int))) (some (.int .i64 ((n : Int) + 1))) none).run Tryz.prog W' = .ok (.string ⟨#[UInt8.ofNat (48 + n)]⟩) W' := by
        intro W'
        rw [← hcut]
        have hz : (⟨#[48, 49, 50, 51, 52, 53, 54, 55, 56, 57]⟩ : ByteArray).size = 10 := rfl
        simp [go_sem, hz]
        rw [if_pos (by omega), if_pos (by omega)]
      rw [Pl.dd_small h]
      obtain ⟨y, hy⟩ : ∃ y, UInt8.ofNat (48 + n) = y := ⟨_, rfl⟩
      rw [hy] at hsl ⊢
      clear hcut hs hy
      go_enter Tryz.func14, Tryz.ntmps14
      go_wp2_with fail
      go_ret
      exact ⟨rfl, rfl⟩
    · have h1 := fun W => ih (n / 10) W (by omega) (by omega)
      have h2 := fun W => ih (n % 10) W (by omega) (by omega)
      rw [show ((n / 10 : Nat) : Int) = (n : Int) / 10 by omega] at h1
      rw [show ((n % 10 : Nat) : Int) = (n : Int) % 10 by omega] at h2
      rw [Pl.dd_big h]
      rw [Pl.dd_small (show n % 10 < 10 by omega)] at h2
      have hl := Pl.dd_len 39 (n / 10) (by have : (1000000000000 : Nat) < 10 ^ 40 := (by decide); omega)
      obtain ⟨y, hy⟩ : ∃ y, UInt8.ofNat (48 + n % 10) = y := ⟨_, rfl⟩
      rw [hy] at h2 ⊢
      clear hy
      obtain ⟨X, hX⟩ : ∃ X, Lib.decDigits (n / 10) = X := ⟨_, rfl⟩
      rw [hX] at h1 hl ⊢
      have HI := Lib.hid (And.intro h1 h2)
      clear h1 h2 ih hX
      go_enter Tryz.func14, Tryz.ntmps14
      go_wp2_with fail
      (with_reducible refine (HI.out.1 _).mono ?_)
      rintro x w1 ⟨rfl, rfl⟩
      go_wp2_with fail
      (with_reducible refine (HI.out.2 _).mono ?_)
      rintro x w1 ⟨rfl, rfl⟩
      go_wp2_with fail
      go_ret
      exact ⟨rfl, rfl⟩
theorem rdec11_any (n : Nat) (hn : n ≤ 1000000000000) (w : World) : Calls Tryz.prog 14 #[.int .i64 (n : Int)] w (Ret (.string ⟨(Lib.itoa (n : Int)).toArray⟩) w) := by
  rw [Pl.itoa_pos (by omega)]
  exact rdec11_ind n n w hn (Nat.le_refl _)
end Go.Proofs.YtmmnkoeajdeldaaGreatDoor
namespace Go.Proofs.YtmmnkoeajdeldaaGreatDoor
open Go.RowKit
set_option linter.unusedVariables false
set_option linter.unusedSimpArgs false
attribute [local go_sem] ba_get ba_cut ba_add
set_option maxRecDepth 100000 in
set_option maxHeartbeats 2000000 in
theorem rdec10_ind : ∀ (f n : Nat) (w : World), n ≤ 1000000000 → n ≤ f → Calls Tryz.prog 87 #[.int .i32 (n : Int)] w (Ret (.string ⟨(Lib.decDigits n).toArray⟩) w) := by
  intro f
  induction f with
  | zero =>
    intro n w hn hf
    obtain rfl : n = 0 := by omega
    go_enter Tryz.func87, Tryz.ntmps87
    go_wp2_with fail
    go_ret
    exact ⟨by rw [Pl.dd_small (by omega)]; rfl, rfl⟩
  | succ f ih =>
    intro n w hn hf
    by_cases h : n < 10
    · have hs := sign_one n h
      have hcut : (⟨#[48, 49, 50, 51, 52, 53, 54, 55, 56, 57]⟩ : ByteArray).extract n (n + 1) = ⟨#[UInt8.ofNat (48 + n)]⟩ := by
        have e := ba_cut [48, 49, 50, 51, 52, 53, 54, 55, 56, 57] n (n + 1)
        rw [Nat.add_sub_cancel_left, hs] at e
        exact e
      have hsl : ∀ W', (Instr.slice 9 (.string ⟨#[48, 49, 50, 51, 52, 53, 54, 55, 56, 57]⟩) (some (.int .i32 (n : Int))) (some (.int .i32 ((n : Int) + 1))) none).run Tryz.prog W' = .ok (.string ⟨#[UInt8.ofNat (48 + n)]⟩) W' := by
        intro W'
        rw [← hcut]
        have hz : (⟨#[48, 49, 50, 51, 52, 53, 54, 55, 56, 57]⟩ : ByteArray).size = 10 := rfl
        simp [go_sem, hz]
        rw [if_pos (by omega), if_pos (by omega)]
      rw [Pl.dd_small h]
      obtain ⟨y, hy⟩ : ∃ y, UInt8.ofNat (48 + n) = y := ⟨_, rfl⟩
      rw [hy] at hsl ⊢
      clear hcut hs hy
      go_enter Tryz.func87, Tryz.ntmps87
      go_wp2_with fail
      go_ret
      exact ⟨rfl, rfl⟩
    · have h1 := fun W => ih (n / 10) W (by omega) (by omega)
      have h2 := fun W => ih (n % 10) W (by omega) (by omega)
      rw [show ((n / 10 : Nat) : Int) = (n : Int) / 10 by omega] at h1
      rw [show ((n % 10 : Nat) : Int) = (n : Int) % 10 by omega] at h2
      rw [Pl.dd_big h]
      rw [Pl.dd_small (show n % 10 < 10 by omega)] at h2
      have hl := Pl.dd_len 39 (n / 10) (by have : (1000000000000 : Nat) < 10 ^ 40 := (by decide); omega)
      obtain ⟨y, hy⟩ : ∃ y, UInt8.ofNat (48 + n % 10) = y := ⟨_, rfl⟩
      rw [hy] at h2 ⊢
      clear hy
      obtain ⟨X, hX⟩ : ∃ X, Lib.decDigits (n / 10) = X := ⟨_, rfl⟩
      rw [hX] at h1 hl ⊢
      have HI := Lib.hid (And.intro h1 h2)
      clear h1 h2 ih hX
      go_enter Tryz.func87, Tryz.ntmps87
      go_wp2_with fail
      (with_reducible refine (HI.out.1 _).mono ?_)
      rintro x w1 ⟨rfl, rfl⟩
      go_wp2_with fail
      (with_reducible refine (HI.out.2 _).mono ?_)
      rintro x w1 ⟨rfl, rfl⟩
      go_wp2_with fail
      go_ret
      exact ⟨rfl, rfl⟩
set_option maxRecDepth 100000 in
theorem rdec10_any (v : Int) (h : -100000 ≤ v ∧ v ≤ 100000) (w : World) : Calls Tryz.prog 87 #[.int .i32 v] w (Ret (.string ⟨(Lib.itoa v).toArray⟩) w) := by
  by_cases hn : v < 0
  · have hc := fun W => rdec10_ind (-v).toNat (-v).toNat W (by omega) (Nat.le_refl _)
    rw [show (((-v).toNat : Nat) : Int) = -v by omega] at hc
    have hl := (Pl.itoa_len (v := v) ⟨by omega, by omega⟩).2
    have e : Lib.itoa v = 45 :: Lib.decDigits (-v).toNat := by
      rw [Pl.itoa_min hn, show v.natAbs = (-v).toNat by omega]
    rw [e] at hl ⊢
    obtain ⟨X, hX⟩ : ∃ X, Lib.decDigits (-v).toNat = X := ⟨_, rfl⟩
    rw [hX] at hc hl ⊢
    have hl : X.length ≤ 20 := by simp at hl; omega
    have HC := Lib.hid hc
    have hw : IntKind.i32.wrap (-v) = -v := IntWalk.i32_in _ (by omega)
    clear hc hX e
    go_enter Tryz.func87, Tryz.ntmps87
    go_wp2_with fail
    (with_reducible refine (HC.out _).mono ?_)
    rintro x w1 ⟨rfl, rfl⟩
    go_wp2_with fail
    go_ret
    exact ⟨rfl, rfl⟩
  · have := rdec10_ind v.toNat v.toNat w (by omega) (Nat.le_refl _)
    rw [show ((v.toNat : Nat) : Int) = v by omega] at this
    rw [Pl.itoa_pos (by omega)]
    exact this
set_option maxRecDepth 100000 in
theorem rreg10_any (r : Nat) (h : r < 256) (w : World) : Calls Tryz.prog 86 #[.int .u8 (r : Int)] w (Ret (.string ⟨(Pl.rT r).toArray⟩) w) := by
  have hc := fun W => rdec10_any (r : Int) (by omega) W
  have hl := (Pl.itoa_len (v := (r : Int)) ⟨by omega, by omega⟩).2
  unfold Pl.rT
  obtain ⟨X, hX⟩ : ∃ X, Lib.itoa (r : Int) = X := ⟨_, rfl⟩
  rw [hX] at hc hl ⊢
  have HC := Lib.hid hc
  clear hc hX
  go_enter Tryz.func86, Tryz.ntmps86
  go_wp2_with fail
  (with_reducible refine (HC.out _).mono ?_)
  rintro x w1 ⟨rfl, rfl⟩
  go_wp2_with fail
  go_ret
  exact ⟨rfl, rfl⟩
def namesV : List Value := Pl.opNs.map fun s => .string ⟨s.toArray⟩
set_option maxRecDepth 100000 in
set_option maxHeartbeats 4000000 in
theorem rnames10_any (w : World) : Calls Tryz.prog 85 #[] w (fun e w' => e = .returned (.slice (some ⟨w.heap.size, 0, none⟩) 31 31) ∧ w' = w.alloc (.cells namesV.toArray 9)) := by
  go_enter Tryz.func85, Tryz.ntmps85
  go_wp2_with fail
  go_ret
  exact ⟨rfl, rfl⟩
end Go.Proofs.YtmmnkoeajdeldaaGreatDoor
namespace Go.Proofs.YtmmnkoeajdeldaaGreatDoor
open Go.RowKit
set_option linter.unusedVariables false
set_option linter.unusedSimpArgs false
attribute [local go_sem] ba_get ba_cut ba_add
/-- An instruction's cells. -/
structure InsB (w : World) (B op a b c : Nat) (imm : Int) : Prop where
  c0 : w.cell? ⟨B, 0, none⟩ = some (.int .u8 (op : Int))
  c1 : w.cell? ⟨B, 1, none⟩ = some (.int .u8 (a : Int))
  c2 : w.cell? ⟨B, 2, none⟩ = some (.int .u8 (b : Int))
  c3 : w.cell? ⟨B, 3, none⟩ = some (.int .u8 (c : Int))
  c4 : w.cell? ⟨B, 4, none⟩ = some (.int .i32 imm)
theorem InsB.keep {w w' : World} {B op a b c : Nat} {imm : Int} (h : InsB w B op a b c imm) (hb : Below w.heap.size w w') (hB : B < w.heap.size) : InsB w' B op a b c imm :=
  ⟨(hb.cell (p := ⟨_, 0, none⟩) hB).trans h.c0, (hb.cell (p := ⟨_, 1, none⟩) hB).trans h.c1, (hb.cell (p := ⟨_, 2, none⟩) hB).trans h.c2, (hb.cell (p := ⟨_, 3, none⟩) hB).trans h.c3, (hb.cell (p := ⟨_, 4, none⟩) hB).trans h.c4⟩
theorem InsB.drew {w : World} {B op a b c : Nat} {imm : Int} (h : InsB w B op a b c imm) : InsB w.drew B op a b c imm := ⟨h.c0, h.c1, h.c2, h.c3, h.c4⟩
set_option maxRecDepth 100000 in
set_option maxHeartbeats 4000000 in
theorem rtext_any (x : Pl.Ins) (w : World) (h : Pl.InsOk x) : Calls Tryz.prog 48 #[insV x] w (RetB (fun v _ => v = .string ⟨(Pl.textI x).toArray⟩) w) := by
  have hE := fun W => renc_any x W h
  obtain ⟨R, hR⟩ : ∃ R, Pl.textI x = R := ⟨_, rfl⟩
  rw [hR]
  have HX := Lib.hid (And.intro hR h)
  clear hR
  by_cases he : Pl.encE x = 0
  rotate_left
  · obtain ⟨k, hk⟩ : ∃ k, Pl.encE x = k := ⟨_, rfl⟩
    rw [hk] at he
    have hn : R = [] := by rw [← HX.out.1]; unfold Pl.textI; rw [if_neg (by rw [hk]; exact he)]
    subst hn
    have e2 : ∀ W, Calls Tryz.prog 76 #[insV x] W (RetB (fun v _ => v = .tuple #[.int .u32 0, .int .i64 (k : Int)]) W) := fun W => by
      have := hE W
      rw [encV_err hk he] at this
      exact this
    have HE := Lib.hid e2
    clear e2 hE hk
    obtain ⟨op, a, b, c, imm⟩ := x
    have hk2 : ((k : Int) == 0) = false := by rw [beq_eq_false_iff_ne]; omega
    unfold insV at HE ⊢
    simp only at HE ⊢
    go_enter Tryz.func48, Tryz.ntmps48
    go_wp2_with fail
    refine (HE.out _).mono ?_
    rintro y w1 ⟨v, rfl, rfl, hb⟩
    go_wp2_with fail
    go_ret
    exact ⟨_, rfl, rfl, ((Below.refl _ _).alloc (Nat.le_refl _) _).trans (hb.mono (by simp))⟩
  · have ho := Pl.enc_op he
    have e2 : ∀ W, Calls Tryz.prog 76 #[insV x] W (RetB (fun v _ => v = .tuple #[.int .u32 (Pl.wordOf x : Int), .int .i64 0]) W) := fun W => by
      have := hE W
      rw [encV_ok he] at this
      exact this
    have HE := Lib.hid e2
    have hpt := Pl.enc_parts he
    have hTx : R = Pl.nameO x.op ++ 32 :: Lib.join (Pl.piecesI x) [44, 32] := by
      rw [← HX.out.1]; unfold Pl.textI; rw [if_pos he]
    clear e2 hE he
    obtain ⟨op, a, b, c, imm⟩ := x
    unfold insV at HE ⊢
    simp only at HE ho hpt hTx ⊢
    obtain ⟨pa, pb, pc, -, -, -, -, pi⟩ := hpt
    have hra : ∀ W, Calls Tryz.prog 86 #[.int .u8 (a : Int)] W (Ret (.string ⟨(Pl.rT a).toArray⟩) W) := fun W => rreg10_any a (by omega) W
    have hrb : ∀ W, Calls Tryz.prog 86 #[.int .u8 (b : Int)] W (Ret (.string ⟨(Pl.rT b).toArray⟩) W) := fun W => rreg10_any b (by omega) W
    have hrc : ∀ W, Calls Tryz.prog 86 #[.int .u8 (c : Int)] W (Ret (.string ⟨(Pl.rT c).toArray⟩) W) := fun W => rreg10_any c (by omega) W
    have hri : ∀ W, Calls Tryz.prog 87 #[.int .i32 imm] W (Ret (.string ⟨(Lib.itoa imm).toArray⟩) W) := fun W => rdec10_any imm (by omega) W
    have hfo : ∀ W, Calls Tryz.prog 83 #[.int .u8 (op : Int)] W (Ret (.int .i64 (Pl.formN op : Nat)) W) := fun W => rform_any op W (by omega)
    have la : (Pl.rT a).length ≤ 21 := by have := itoa_reg a pa; simp [Pl.rT]; omega
    have lb : (Pl.rT b).length ≤ 21 := by have := itoa_reg b pb; simp [Pl.rT]; omega
    have lc : (Pl.rT c).length ≤ 21 := by have := itoa_reg c pc; simp [Pl.rT]; omega
    have li := (Pl.itoa_len (v := imm) ⟨by omega, by omega⟩).2
    have hpp : Pl.piecesI ⟨op, a, b, c, imm⟩ = if Pl.formN op = 1 then [Pl.rT a, Pl.rT b, Pl.rT c] else if Pl.formN op = 2 then [Pl.rT a, Pl.rT b, Lib.itoa imm] else if Pl.formN op = 3 then [Pl.rT a, Lib.itoa imm] else if Pl.formN op = 4 then [Pl.rT a, Lib.itoa imm ++ 40 :: (Pl.rT b ++ [41])] else [Lib.itoa imm] := rfl
    obtain ⟨ta, hta⟩ : ∃ z, Pl.rT a = z := ⟨_, rfl⟩
    obtain ⟨tb, htb⟩ : ∃ z, Pl.rT b = z := ⟨_, rfl⟩
    obtain ⟨tc, htc⟩ : ∃ z, Pl.rT c = z := ⟨_, rfl⟩
    obtain ⟨ti, hti⟩ : ∃ z, Lib.itoa imm = z := ⟨_, rfl⟩
    rw [hta] at la hra hpp
    rw [htb] at lb hrb hpp
    rw [htc] at lc hrc hpp
    rw [hti] at li hri hpp
    have hnl : (Pl.nameO op).length ≤ 10 := (Pl.names_ok op ho.2 ho.1).2.2.2.2.2.2.2.2.1
    have hnc : namesV[op - 1]? = some (.string ⟨(Pl.nameO op).toArray⟩) := by
      have hk : op - 1 < Pl.opNs.length := by have : Pl.opNs.length = 31 := rfl; omega
      simp [namesV, Pl.nameO, hk]
    obtain ⟨nm, hnm⟩ : ∃ z, Pl.nameO op = z := ⟨_, rfl⟩
    rw [hnm] at hnl hnc hTx
    have hf5 : Pl.formN op = 1 ∨ Pl.formN op = 2 ∨ Pl.formN op = 3 ∨ Pl.formN op = 4 ∨ Pl.formN op = 5 := by unfold Pl.formN; (repeat' split) <;> omega
    obtain ⟨f, hf⟩ : ∃ f, Pl.formN op = f := ⟨_, rfl⟩
    rw [hf] at hfo hpp hf5
    have HT := Lib.hid (And.intro hTx hpp)
    have HC := Lib.hid (And.intro hra (And.intro hrb (And.intro hrc (And.intro hri hfo))))
    have HNC := Lib.hid hnc
    clear hra hrb hrc hri hfo hpp hTx hta htb htc hti hnm hnc hf pa pb pc pi h
    go_enter Tryz.func48, Tryz.ntmps48
    go_wp2_with fail
    refine (HE.out _).mono ?_
    rintro y w1 ⟨v, rfl, rfl, hb⟩
    obtain ⟨B, hB⟩ : ∃ B, w.heap.size = B := ⟨_, rfl⟩
    have hz1 : w1.heap[B]? = some (.cells #[.int .u8 (op : Int), .int .u8 (a : Int), .int .u8 (b : Int), .int .u8 (c : Int), .int .i32 imm] 33 (0, 0)) := by
      rw [hb.block B (by simp; omega), ← hB]
      exact heap_alloc_new _ _
    have hb1 : Below w.heap.size w w1 := ((Below.refl _ _).alloc (Nat.le_refl _) _).trans (hb.mono (by simp))
    rw [hB]
    have hB1 : B < w1.heap.size := blk_lt hz1
    have hS1 : InsB w1 B op a b c imm := ⟨by rw [cell_row w1 B 0 _ _ hz1]; rfl, by rw [cell_row w1 B 1 _ _ hz1]; rfl, by rw [cell_row w1 B 2 _ _ hz1]; rfl, by rw [cell_row w1 B 3 _ _ hz1]; rfl, by rw [cell_row w1 B 4 _ _ hz1]; rfl⟩
    have H1 := Lib.hid (And.intro hS1 (And.intro hb1 hB1))
    clear hz1 hb hb1 hB1 hS1
    go_upto_region 4 with (fail)
    have hq : IntKind.u8.wrap ((op : Int) - 1) = ((op - 1 : Nat) : Int) := by rw [IntKind.wrap_u8]; omega
    obtain ⟨q, hq2⟩ : ∃ q, op - 1 = q := ⟨_, rfl⟩
    have hq31 : (q : Int) < 31 := by omega
    have hq31n : q < 31 := by omega
    have kn : ¬ 9223372036854775807 < nm.length + 1 := by omega
    rw [hq2] at hq HNC
    refine wp_region_held_drew (S := (fun w' => InsB w' B op a b c imm)) (by kernel_rfl) (by exact H1.out.1.drew) (fun hHeld => ?_)
    refine wpAnyH_take (i := 1) (v := ?_) rfl (by kernel_rfl) (by kernel_rfl) (by kernel_rfl) (fun _ _ _ h => h) (Or.inl ⟨by kernel_rfl, ?_⟩) hHeld ?_
    rotate_left
    · (intro w' hSw; obtain ⟨hS0, hS1, hS2, hS3, hS4⟩ := hSw; go_simp; try with_reducible rfl)
    simp only [Act.put, List.setIfInBounds_toArray, List.set_cons_zero, List.set_cons_succ, List.getElem_toArray, List.getElem_cons_succ, List.getElem_cons_zero]
    refine wpAnyH_take (i := 2) (v := ?_) rfl (by kernel_rfl) (by kernel_rfl) (by kernel_rfl) (fun _ _ _ h => h) (Or.inl ⟨by kernel_rfl, ?_⟩) hHeld ?_
    rotate_left
    · (intro w' hSw; obtain ⟨hS0, hS1, hS2, hS3, hS4⟩ := hSw; go_simp; try with_reducible rfl)
    simp only [Act.put, List.setIfInBounds_toArray, List.set_cons_zero, List.set_cons_succ, List.getElem_toArray, List.getElem_cons_succ, List.getElem_cons_zero]
    refine wpAnyH_take (i := 3) (v := ?_) rfl (by kernel_rfl) (by kernel_rfl) (by kernel_rfl) (fun _ _ _ h => h) (Or.inl ⟨by kernel_rfl, ?_⟩) hHeld ?_
    rotate_left
    · (intro w' hSw; obtain ⟨hS0, hS1, hS2, hS3, hS4⟩ := hSw; go_simp; try with_reducible rfl)
    simp only [Act.put, List.setIfInBounds_toArray, List.set_cons_zero, List.set_cons_succ, List.getElem_toArray, List.getElem_cons_succ, List.getElem_cons_zero]
    refine wpAnyH_ready (rs := [0]) (by kernel_rfl) (by simp) (AllReadyH.cons rfl (fun K hK => ?_) AllReadyH.nil)
    go_simp
    refine (rnames10_any _).mono ?_
    rintro y w2 ⟨rfl, hw2⟩
    obtain ⟨D, hD⟩ : ∃ D, w1.heap.size = D := ⟨_, rfl⟩
    have hb2 : Below w1.heap.size w1 w2 := by rw [hw2]; exact ((Below.refl _ _).drew).alloc (Nat.le_refl _) _
    have hz2 : w2.heap[D]? = some (.cells namesV.toArray 9 (0, 0)) := by rw [hw2, ← hD]; exact heap_alloc_new w1.drew _
    have hS2 := H1.out.1.keep hb2 H1.out.2.2
    have hcn : w2.cell? ⟨D, q, none⟩ = some (.string ⟨nm.toArray⟩) := by rw [cell_row w2 D q _ _ hz2]; simpa using HNC.out
    have hDe : w1.drew.heap.size = D := hD
    rw [hDe]
    clear hw2 hD hDe
    refine hK.out _ _ hS2 (fun hHeld => ?_)
    clear hK K
    (try simp only [Act.put, List.setIfInBounds_toArray, List.set_cons_zero, List.set_cons_succ, List.getElem_toArray, List.getElem_cons_succ, List.getElem_cons_zero])
    refine wpAnyH_take (i := 4) (v := ?_) rfl (by kernel_rfl) (by kernel_rfl) (by kernel_rfl) (fun _ _ _ h => h) (Or.inl ⟨by kernel_rfl, ?_⟩) hHeld ?_
    rotate_left
    · (intro w' hSw; obtain ⟨hS0, hS1, hS2, hS3, hS4⟩ := hSw; go_simp; try with_reducible rfl)
    simp only [Act.put, List.setIfInBounds_toArray, List.set_cons_zero, List.set_cons_succ, List.getElem_toArray, List.getElem_cons_succ, List.getElem_cons_zero]
    refine wpAnyH_ready (rs := [5]) (by kernel_rfl) (by simp) (AllReadyH.cons rfl (fun K hK => ?_) AllReadyH.nil)
    go_simp
    refine hK.out _ _ hS2 (fun hHeld => ?_)
    clear hK K
    (try simp only [Act.put, List.setIfInBounds_toArray, List.set_cons_zero, List.set_cons_succ, List.getElem_toArray, List.getElem_cons_succ, List.getElem_cons_zero])
    refine wpAnyH_take (i := 6) (v := ?_) rfl (by kernel_rfl) (by kernel_rfl) (by kernel_rfl) (fun _ _ _ h => h) (Or.inl ⟨by kernel_rfl, ?_⟩) hHeld ?_
    rotate_left
    · (intro w' hSw; (try dsimp only at hSw); go_simp; try with_reducible rfl)
    simp only [Act.put, List.setIfInBounds_toArray, List.set_cons_zero, List.set_cons_succ, List.getElem_toArray, List.getElem_cons_succ, List.getElem_cons_zero]
    refine wpAnyH_take (i := 7) (v := ?_) rfl (by kernel_rfl) (by kernel_rfl) (by kernel_rfl) (fun _ _ _ h => h) (Or.inl ⟨by kernel_rfl, ?_⟩) hHeld ?_
    rotate_left
    · (intro w' hSw; (try dsimp only at hSw); go_simp; try with_reducible rfl)
    simp only [Act.put, List.setIfInBounds_toArray, List.set_cons_zero, List.set_cons_succ, List.getElem_toArray, List.getElem_cons_succ, List.getElem_cons_zero]
    refine wpAnyH_done (by kernel_rfl) ?_ _
    have hbw2 : Below w.heap.size w w2 := H1.out.2.1.trans (hb2.mono H1.out.2.1.size)
    have hB2 : B < w2.heap.size := Nat.lt_of_lt_of_le H1.out.2.2 hb2.size
    have H2 := Lib.hid (And.intro hS2 (And.intro hbw2 hB2))
    have hs5 : (nm ++ [32]).length ≤ 11 := by simp; omega
    obtain ⟨s5, hs52⟩ : ∃ z, nm ++ [32] = z := ⟨_, rfl⟩
    rw [hs52] at hs5 ⊢
    have HS := Lib.hid hs52
    have y0 := hS2.c0
    clear hb2 hz2 hS2 hcn hbw2 hB2 hs52 hHeld hq hq31 hq31n hq2
    go_wp2_with fail
    refine (HC.out.2.2.2.2 _).mono ?_
    rintro y w3 ⟨rfl, rfl⟩
    clear y0
    have k0 : ¬ 9223372036854775807 < s5.length + ta.length := by omega
    have k1 : ¬ 9223372036854775807 < s5.length + ta.length + 2 := by omega
    have k2 : ¬ 9223372036854775807 < s5.length + (ta.length + 2) + tb.length := by omega
    have k3 : ¬ 9223372036854775807 < s5.length + (ta.length + (tb.length + 1 + 1)) + 2 := by omega
    have k4 : ¬ 9223372036854775807 < s5.length + (ta.length + (tb.length + 2 + 1 + 1)) + tc.length := by omega
    have k5 : ¬ 9223372036854775807 < s5.length + (ta.length + (tb.length + 2 + 1 + 1)) + ti.length := by omega
    have k6 : ¬ 9223372036854775807 < s5.length + (ta.length + 2) + ti.length := by omega
    have k7 : ¬ 9223372036854775807 < s5.length + (ta.length + (ti.length + 1 + 1)) + 1 := by omega
    have k8 : ¬ 9223372036854775807 < s5.length + (ta.length + (ti.length + 1 + 1 + 1)) + tb.length := by omega
    have k9 : ¬ 9223372036854775807 < s5.length + (ta.length + (ti.length + (tb.length + 1) + 1 + 1)) + 1 := by omega
    have k10 : ¬ 9223372036854775807 < s5.length + ti.length := by omega
    rcases hf5 with rfl | rfl | rfl | rfl | rfl
    · go_wp2_with fail
      refine wp_region_held_drew (S := (fun w' => InsB w' B op a b c imm)) (by kernel_rfl) (by exact H2.out.1.drew) (fun hHeld => ?_)
      refine wpAnyH_take (i := 0) (v := ?_) rfl (by kernel_rfl) (by kernel_rfl) (by kernel_rfl) (fun _ _ _ h => h) (Or.inl ⟨by kernel_rfl, ?_⟩) hHeld ?_
      rotate_left
      · (intro w' hSw; obtain ⟨hS0, hS1, hS2, hS3, hS4⟩ := hSw; go_simp; try with_reducible rfl)
      simp only [Act.put, List.setIfInBounds_toArray, List.set_cons_zero, List.set_cons_succ, List.getElem_toArray, List.getElem_cons_succ, List.getElem_cons_zero]
      refine wpAnyH_take (i := 1) (v := ?_) rfl (by kernel_rfl) (by kernel_rfl) (by kernel_rfl) (fun _ _ _ h => h) (Or.inl ⟨by kernel_rfl, ?_⟩) hHeld ?_
      rotate_left
      · (intro w' hSw; obtain ⟨hS0, hS1, hS2, hS3, hS4⟩ := hSw; go_simp; try with_reducible rfl)
      simp only [Act.put, List.setIfInBounds_toArray, List.set_cons_zero, List.set_cons_succ, List.getElem_toArray, List.getElem_cons_succ, List.getElem_cons_zero]
      refine wpAnyH_take (i := 2) (v := ?_) rfl (by kernel_rfl) (by kernel_rfl) (by kernel_rfl) (fun _ _ _ h => h) (Or.inl ⟨by kernel_rfl, ?_⟩) hHeld ?_
      rotate_left
      · (intro w' hSw; obtain ⟨hS0, hS1, hS2, hS3, hS4⟩ := hSw; go_simp; try with_reducible rfl)
      simp only [Act.put, List.setIfInBounds_toArray, List.set_cons_zero, List.set_cons_succ, List.getElem_toArray, List.getElem_cons_succ, List.getElem_cons_zero]
      refine wpAnyH_take (i := 6) (v := ?_) rfl (by kernel_rfl) (by kernel_rfl) (by kernel_rfl) (fun _ _ _ h => h) (Or.inl ⟨by kernel_rfl, ?_⟩) hHeld ?_
      rotate_left
      · (intro w' hSw; obtain ⟨hS0, hS1, hS2, hS3, hS4⟩ := hSw; go_simp; try with_reducible rfl)
      simp only [Act.put, List.setIfInBounds_toArray, List.set_cons_zero, List.set_cons_succ, List.getElem_toArray, List.getElem_cons_succ, List.getElem_cons_zero]
      refine wpAnyH_take (i := 7) (v := ?_) rfl (by kernel_rfl) (by kernel_rfl) (by kernel_rfl) (fun _ _ _ h => h) (Or.inl ⟨by kernel_rfl, ?_⟩) hHeld ?_
      rotate_left
      · (intro w' hSw; obtain ⟨hS0, hS1, hS2, hS3, hS4⟩ := hSw; go_simp; try with_reducible rfl)
      simp only [Act.put, List.setIfInBounds_toArray, List.set_cons_zero, List.set_cons_succ, List.getElem_toArray, List.getElem_cons_succ, List.getElem_cons_zero]
      refine wpAnyH_take (i := 11) (v := ?_) rfl (by kernel_rfl) (by kernel_rfl) (by kernel_rfl) (fun _ _ _ h => h) (Or.inl ⟨by kernel_rfl, ?_⟩) hHeld ?_
      rotate_left
      · (intro w' hSw; obtain ⟨hS0, hS1, hS2, hS3, hS4⟩ := hSw; go_simp; try with_reducible rfl)
      simp only [Act.put, List.setIfInBounds_toArray, List.set_cons_zero, List.set_cons_succ, List.getElem_toArray, List.getElem_cons_succ, List.getElem_cons_zero]
      refine wpAnyH_take (i := 12) (v := ?_) rfl (by kernel_rfl) (by kernel_rfl) (by kernel_rfl) (fun _ _ _ h => h) (Or.inl ⟨by kernel_rfl, ?_⟩) hHeld ?_
      rotate_left
      · (intro w' hSw; obtain ⟨hS0, hS1, hS2, hS3, hS4⟩ := hSw; go_simp; try with_reducible rfl)
      simp only [Act.put, List.setIfInBounds_toArray, List.set_cons_zero, List.set_cons_succ, List.getElem_toArray, List.getElem_cons_succ, List.getElem_cons_zero]
      refine wpAnyH_ready (rs := [3]) (by kernel_rfl) (by simp) (AllReadyH.cons rfl (fun K hK => ?_) AllReadyH.nil)
      go_simp
      refine (HC.out.1 _).mono ?_
      rintro y w4 ⟨rfl, rfl⟩
      refine hK.out _ _ (by exact H2.out.1.drew) (fun hHeld => ?_)
      clear hK K
      (try simp only [Act.put, List.setIfInBounds_toArray, List.set_cons_zero, List.set_cons_succ, List.getElem_toArray, List.getElem_cons_succ, List.getElem_cons_zero])
      refine wpAnyH_take (i := 4) (v := ?_) rfl (by kernel_rfl) (by kernel_rfl) (by kernel_rfl) (fun _ _ _ h => h) (Or.inl ⟨by kernel_rfl, ?_⟩) hHeld ?_
      rotate_left
      · (intro w' hSw; (try dsimp only at hSw); go_simp; try with_reducible rfl)
      simp only [Act.put, List.setIfInBounds_toArray, List.set_cons_zero, List.set_cons_succ, List.getElem_toArray, List.getElem_cons_succ, List.getElem_cons_zero]
      refine wpAnyH_take (i := 5) (v := ?_) rfl (by kernel_rfl) (by kernel_rfl) (by kernel_rfl) (fun _ _ _ h => h) (Or.inl ⟨by kernel_rfl, ?_⟩) hHeld ?_
      rotate_left
      · (intro w' hSw; (try dsimp only at hSw); go_simp; try with_reducible rfl)
      simp only [Act.put, List.setIfInBounds_toArray, List.set_cons_zero, List.set_cons_succ, List.getElem_toArray, List.getElem_cons_succ, List.getElem_cons_zero]
      refine wpAnyH_ready (rs := [8]) (by kernel_rfl) (by simp) (AllReadyH.cons rfl (fun K hK => ?_) AllReadyH.nil)
      go_simp
      refine (HC.out.2.1 _).mono ?_
      rintro y w4 ⟨rfl, rfl⟩
      refine hK.out _ _ (by exact H2.out.1.drew) (fun hHeld => ?_)
      clear hK K
      (try simp only [Act.put, List.setIfInBounds_toArray, List.set_cons_zero, List.set_cons_succ, List.getElem_toArray, List.getElem_cons_succ, List.getElem_cons_zero])
      refine wpAnyH_take (i := 9) (v := ?_) rfl (by kernel_rfl) (by kernel_rfl) (by kernel_rfl) (fun _ _ _ h => h) (Or.inl ⟨by kernel_rfl, ?_⟩) hHeld ?_
      rotate_left
      · (intro w' hSw; (try dsimp only at hSw); go_simp; try with_reducible rfl)
      simp only [Act.put, List.setIfInBounds_toArray, List.set_cons_zero, List.set_cons_succ, List.getElem_toArray, List.getElem_cons_succ, List.getElem_cons_zero]
      refine wpAnyH_take (i := 10) (v := ?_) rfl (by kernel_rfl) (by kernel_rfl) (by kernel_rfl) (fun _ _ _ h => h) (Or.inl ⟨by kernel_rfl, ?_⟩) hHeld ?_
      rotate_left
      · (intro w' hSw; (try dsimp only at hSw); go_simp; try with_reducible rfl)
      simp only [Act.put, List.setIfInBounds_toArray, List.set_cons_zero, List.set_cons_succ, List.getElem_toArray, List.getElem_cons_succ, List.getElem_cons_zero]
      refine wpAnyH_ready (rs := [13]) (by kernel_rfl) (by simp) (AllReadyH.cons rfl (fun K hK => ?_) AllReadyH.nil)
      go_simp
      refine (HC.out.2.2.1 _).mono ?_
      rintro y w4 ⟨rfl, rfl⟩
      refine hK.out _ _ (by exact H2.out.1.drew) (fun hHeld => ?_)
      clear hK K
      (try simp only [Act.put, List.setIfInBounds_toArray, List.set_cons_zero, List.set_cons_succ, List.getElem_toArray, List.getElem_cons_succ, List.getElem_cons_zero])
      refine wpAnyH_take (i := 14) (v := ?_) rfl (by kernel_rfl) (by kernel_rfl) (by kernel_rfl) (fun _ _ _ h => h) (Or.inl ⟨by kernel_rfl, ?_⟩) hHeld ?_
      rotate_left
      · (intro w' hSw; (try dsimp only at hSw); go_simp; try with_reducible rfl)
      simp only [Act.put, List.setIfInBounds_toArray, List.set_cons_zero, List.set_cons_succ, List.getElem_toArray, List.getElem_cons_succ, List.getElem_cons_zero]
      refine wpAnyH_take (i := 15) (v := ?_) rfl (by kernel_rfl) (by kernel_rfl) (by kernel_rfl) (fun _ _ _ h => h) (Or.inl ⟨by kernel_rfl, ?_⟩) hHeld ?_
      rotate_left
      · (intro w' hSw; (try dsimp only at hSw); go_simp; try with_reducible rfl)
      simp only [Act.put, List.setIfInBounds_toArray, List.set_cons_zero, List.set_cons_succ, List.getElem_toArray, List.getElem_cons_succ, List.getElem_cons_zero]
      refine wpAnyH_done (by kernel_rfl) ?_ _
      go_wp2_with fail
      go_ret
      refine ⟨_, rfl, ?_, H2.out.2.1.drew⟩
      show Value.string _ = Value.string ⟨R.toArray⟩
      rw [HT.out.1, HT.out.2, ← HS.out]
      simp [Lib.join, List.intercalate, List.intersperse]
    · go_wp2_with fail
      refine wp_region_held_drew (S := (fun w' => InsB w' B op a b c imm)) (by kernel_rfl) (by exact H2.out.1.drew) (fun hHeld => ?_)
      refine wpAnyH_take (i := 0) (v := ?_) rfl (by kernel_rfl) (by kernel_rfl) (by kernel_rfl) (fun _ _ _ h => h) (Or.inl ⟨by kernel_rfl, ?_⟩) hHeld ?_
      rotate_left
      · (intro w' hSw; obtain ⟨hS0, hS1, hS2, hS3, hS4⟩ := hSw; go_simp; try with_reducible rfl)
      simp only [Act.put, List.setIfInBounds_toArray, List.set_cons_zero, List.set_cons_succ, List.getElem_toArray, List.getElem_cons_succ, List.getElem_cons_zero]
      refine wpAnyH_take (i := 1) (v := ?_) rfl (by kernel_rfl) (by kernel_rfl) (by kernel_rfl) (fun _ _ _ h => h) (Or.inl ⟨by kernel_rfl, ?_⟩) hHeld ?_
      rotate_left
      · (intro w' hSw; obtain ⟨hS0, hS1, hS2, hS3, hS4⟩ := hSw; go_simp; try with_reducible rfl)
      simp only [Act.put, List.setIfInBounds_toArray, List.set_cons_zero, List.set_cons_succ, List.getElem_toArray, List.getElem_cons_succ, List.getElem_cons_zero]
      refine wpAnyH_take (i := 2) (v := ?_) rfl (by kernel_rfl) (by kernel_rfl) (by kernel_rfl) (fun _ _ _ h => h) (Or.inl ⟨by kernel_rfl, ?_⟩) hHeld ?_
      rotate_left
      · (intro w' hSw; obtain ⟨hS0, hS1, hS2, hS3, hS4⟩ := hSw; go_simp; try with_reducible rfl)
      simp only [Act.put, List.setIfInBounds_toArray, List.set_cons_zero, List.set_cons_succ, List.getElem_toArray, List.getElem_cons_succ, List.getElem_cons_zero]
      refine wpAnyH_take (i := 6) (v := ?_) rfl (by kernel_rfl) (by kernel_rfl) (by kernel_rfl) (fun _ _ _ h => h) (Or.inl ⟨by kernel_rfl, ?_⟩) hHeld ?_
      rotate_left
      · (intro w' hSw; obtain ⟨hS0, hS1, hS2, hS3, hS4⟩ := hSw; go_simp; try with_reducible rfl)
      simp only [Act.put, List.setIfInBounds_toArray, List.set_cons_zero, List.set_cons_succ, List.getElem_toArray, List.getElem_cons_succ, List.getElem_cons_zero]
      refine wpAnyH_take (i := 7) (v := ?_) rfl (by kernel_rfl) (by kernel_rfl) (by kernel_rfl) (fun _ _ _ h => h) (Or.inl ⟨by kernel_rfl, ?_⟩) hHeld ?_
      rotate_left
      · (intro w' hSw; obtain ⟨hS0, hS1, hS2, hS3, hS4⟩ := hSw; go_simp; try with_reducible rfl)
      simp only [Act.put, List.setIfInBounds_toArray, List.set_cons_zero, List.set_cons_succ, List.getElem_toArray, List.getElem_cons_succ, List.getElem_cons_zero]
      refine wpAnyH_take (i := 11) (v := ?_) rfl (by kernel_rfl) (by kernel_rfl) (by kernel_rfl) (fun _ _ _ h => h) (Or.inl ⟨by kernel_rfl, ?_⟩) hHeld ?_
      rotate_left
      · (intro w' hSw; obtain ⟨hS0, hS1, hS2, hS3, hS4⟩ := hSw; go_simp; try with_reducible rfl)
      simp only [Act.put, List.setIfInBounds_toArray, List.set_cons_zero, List.set_cons_succ, List.getElem_toArray, List.getElem_cons_succ, List.getElem_cons_zero]
      refine wpAnyH_take (i := 12) (v := ?_) rfl (by kernel_rfl) (by kernel_rfl) (by kernel_rfl) (fun _ _ _ h => h) (Or.inl ⟨by kernel_rfl, ?_⟩) hHeld ?_
      rotate_left
      · (intro w' hSw; obtain ⟨hS0, hS1, hS2, hS3, hS4⟩ := hSw; go_simp; try with_reducible rfl)
      simp only [Act.put, List.setIfInBounds_toArray, List.set_cons_zero, List.set_cons_succ, List.getElem_toArray, List.getElem_cons_succ, List.getElem_cons_zero]
      refine wpAnyH_ready (rs := [3]) (by kernel_rfl) (by simp) (AllReadyH.cons rfl (fun K hK => ?_) AllReadyH.nil)
      go_simp
      refine (HC.out.1 _).mono ?_
      rintro y w4 ⟨rfl, rfl⟩
      refine hK.out _ _ (by exact H2.out.1.drew) (fun hHeld => ?_)
      clear hK K
      (try simp only [Act.put, List.setIfInBounds_toArray, List.set_cons_zero, List.set_cons_succ, List.getElem_toArray, List.getElem_cons_succ, List.getElem_cons_zero])
      refine wpAnyH_take (i := 4) (v := ?_) rfl (by kernel_rfl) (by kernel_rfl) (by kernel_rfl) (fun _ _ _ h => h) (Or.inl ⟨by kernel_rfl, ?_⟩) hHeld ?_
      rotate_left
      · (intro w' hSw; (try dsimp only at hSw); go_simp; try with_reducible rfl)
      simp only [Act.put, List.setIfInBounds_toArray, List.set_cons_zero, List.set_cons_succ, List.getElem_toArray, List.getElem_cons_succ, List.getElem_cons_zero]
      refine wpAnyH_take (i := 5) (v := ?_) rfl (by kernel_rfl) (by kernel_rfl) (by kernel_rfl) (fun _ _ _ h => h) (Or.inl ⟨by kernel_rfl, ?_⟩) hHeld ?_
      rotate_left
      · (intro w' hSw; (try dsimp only at hSw); go_simp; try with_reducible rfl)
      simp only [Act.put, List.setIfInBounds_toArray, List.set_cons_zero, List.set_cons_succ, List.getElem_toArray, List.getElem_cons_succ, List.getElem_cons_zero]
      refine wpAnyH_ready (rs := [8]) (by kernel_rfl) (by simp) (AllReadyH.cons rfl (fun K hK => ?_) AllReadyH.nil)
      go_simp
      refine (HC.out.2.1 _).mono ?_
      rintro y w4 ⟨rfl, rfl⟩
      refine hK.out _ _ (by exact H2.out.1.drew) (fun hHeld => ?_)
      clear hK K
      (try simp only [Act.put, List.setIfInBounds_toArray, List.set_cons_zero, List.set_cons_succ, List.getElem_toArray, List.getElem_cons_succ, List.getElem_cons_zero])
      refine wpAnyH_take (i := 9) (v := ?_) rfl (by kernel_rfl) (by kernel_rfl) (by kernel_rfl) (fun _ _ _ h => h) (Or.inl ⟨by kernel_rfl, ?_⟩) hHeld ?_
      rotate_left
      · (intro w' hSw; (try dsimp only at hSw); go_simp; try with_reducible rfl)
      simp only [Act.put, List.setIfInBounds_toArray, List.set_cons_zero, List.set_cons_succ, List.getElem_toArray, List.getElem_cons_succ, List.getElem_cons_zero]
      refine wpAnyH_take (i := 10) (v := ?_) rfl (by kernel_rfl) (by kernel_rfl) (by kernel_rfl) (fun _ _ _ h => h) (Or.inl ⟨by kernel_rfl, ?_⟩) hHeld ?_
      rotate_left
      · (intro w' hSw; (try dsimp only at hSw); go_simp; try with_reducible rfl)
      simp only [Act.put, List.setIfInBounds_toArray, List.set_cons_zero, List.set_cons_succ, List.getElem_toArray, List.getElem_cons_succ, List.getElem_cons_zero]
      refine wpAnyH_ready (rs := [13]) (by kernel_rfl) (by simp) (AllReadyH.cons rfl (fun K hK => ?_) AllReadyH.nil)
      go_simp
      refine (HC.out.2.2.2.1 _).mono ?_
      rintro y w4 ⟨rfl, rfl⟩
      refine hK.out _ _ (by exact H2.out.1.drew) (fun hHeld => ?_)
      clear hK K
      (try simp only [Act.put, List.setIfInBounds_toArray, List.set_cons_zero, List.set_cons_succ, List.getElem_toArray, List.getElem_cons_succ, List.getElem_cons_zero])
      refine wpAnyH_take (i := 14) (v := ?_) rfl (by kernel_rfl) (by kernel_rfl) (by kernel_rfl) (fun _ _ _ h => h) (Or.inl ⟨by kernel_rfl, ?_⟩) hHeld ?_
      rotate_left
      · (intro w' hSw; (try dsimp only at hSw); go_simp; try with_reducible rfl)
      simp only [Act.put, List.setIfInBounds_toArray, List.set_cons_zero, List.set_cons_succ, List.getElem_toArray, List.getElem_cons_succ, List.getElem_cons_zero]
      refine wpAnyH_take (i := 15) (v := ?_) rfl (by kernel_rfl) (by kernel_rfl) (by kernel_rfl) (fun _ _ _ h => h) (Or.inl ⟨by kernel_rfl, ?_⟩) hHeld ?_
      rotate_left
      · (intro w' hSw; (try dsimp only at hSw); go_simp; try with_reducible rfl)
      simp only [Act.put, List.setIfInBounds_toArray, List.set_cons_zero, List.set_cons_succ, List.getElem_toArray, List.getElem_cons_succ, List.getElem_cons_zero]
      refine wpAnyH_done (by kernel_rfl) ?_ _
      go_wp2_with fail
      go_ret
      refine ⟨_, rfl, ?_, H2.out.2.1.drew⟩
      show Value.string _ = Value.string ⟨R.toArray⟩
      rw [HT.out.1, HT.out.2, ← HS.out]
      simp [Lib.join, List.intercalate, List.intersperse]
    · go_wp2_with fail
      refine wp_region_held_drew (S := (fun w' => InsB w' B op a b c imm)) (by kernel_rfl) (by exact H2.out.1.drew) (fun hHeld => ?_)
      refine wpAnyH_take (i := 0) (v := ?_) rfl (by kernel_rfl) (by kernel_rfl) (by kernel_rfl) (fun _ _ _ h => h) (Or.inl ⟨by kernel_rfl, ?_⟩) hHeld ?_
      rotate_left
      · (intro w' hSw; obtain ⟨hS0, hS1, hS2, hS3, hS4⟩ := hSw; go_simp; try with_reducible rfl)
      simp only [Act.put, List.setIfInBounds_toArray, List.set_cons_zero, List.set_cons_succ, List.getElem_toArray, List.getElem_cons_succ, List.getElem_cons_zero]
      refine wpAnyH_take (i := 1) (v := ?_) rfl (by kernel_rfl) (by kernel_rfl) (by kernel_rfl) (fun _ _ _ h => h) (Or.inl ⟨by kernel_rfl, ?_⟩) hHeld ?_
      rotate_left
      · (intro w' hSw; obtain ⟨hS0, hS1, hS2, hS3, hS4⟩ := hSw; go_simp; try with_reducible rfl)
      simp only [Act.put, List.setIfInBounds_toArray, List.set_cons_zero, List.set_cons_succ, List.getElem_toArray, List.getElem_cons_succ, List.getElem_cons_zero]
      refine wpAnyH_take (i := 2) (v := ?_) rfl (by kernel_rfl) (by kernel_rfl) (by kernel_rfl) (fun _ _ _ h => h) (Or.inl ⟨by kernel_rfl, ?_⟩) hHeld ?_
      rotate_left
      · (intro w' hSw; obtain ⟨hS0, hS1, hS2, hS3, hS4⟩ := hSw; go_simp; try with_reducible rfl)
      simp only [Act.put, List.setIfInBounds_toArray, List.set_cons_zero, List.set_cons_succ, List.getElem_toArray, List.getElem_cons_succ, List.getElem_cons_zero]
      refine wpAnyH_take (i := 6) (v := ?_) rfl (by kernel_rfl) (by kernel_rfl) (by kernel_rfl) (fun _ _ _ h => h) (Or.inl ⟨by kernel_rfl, ?_⟩) hHeld ?_
      rotate_left
      · (intro w' hSw; obtain ⟨hS0, hS1, hS2, hS3, hS4⟩ := hSw; go_simp; try with_reducible rfl)
      simp only [Act.put, List.setIfInBounds_toArray, List.set_cons_zero, List.set_cons_succ, List.getElem_toArray, List.getElem_cons_succ, List.getElem_cons_zero]
      refine wpAnyH_take (i := 7) (v := ?_) rfl (by kernel_rfl) (by kernel_rfl) (by kernel_rfl) (fun _ _ _ h => h) (Or.inl ⟨by kernel_rfl, ?_⟩) hHeld ?_
      rotate_left
      · (intro w' hSw; obtain ⟨hS0, hS1, hS2, hS3, hS4⟩ := hSw; go_simp; try with_reducible rfl)
      simp only [Act.put, List.setIfInBounds_toArray, List.set_cons_zero, List.set_cons_succ, List.getElem_toArray, List.getElem_cons_succ, List.getElem_cons_zero]
      refine wpAnyH_ready (rs := [3]) (by kernel_rfl) (by simp) (AllReadyH.cons rfl (fun K hK => ?_) AllReadyH.nil)
      go_simp
      refine (HC.out.1 _).mono ?_
      rintro y w4 ⟨rfl, rfl⟩
      refine hK.out _ _ (by exact H2.out.1.drew) (fun hHeld => ?_)
      clear hK K
      (try simp only [Act.put, List.setIfInBounds_toArray, List.set_cons_zero, List.set_cons_succ, List.getElem_toArray, List.getElem_cons_succ, List.getElem_cons_zero])
      refine wpAnyH_take (i := 4) (v := ?_) rfl (by kernel_rfl) (by kernel_rfl) (by kernel_rfl) (fun _ _ _ h => h) (Or.inl ⟨by kernel_rfl, ?_⟩) hHeld ?_
      rotate_left
      · (intro w' hSw; (try dsimp only at hSw); go_simp; try with_reducible rfl)
      simp only [Act.put, List.setIfInBounds_toArray, List.set_cons_zero, List.set_cons_succ, List.getElem_toArray, List.getElem_cons_succ, List.getElem_cons_zero]
      refine wpAnyH_take (i := 5) (v := ?_) rfl (by kernel_rfl) (by kernel_rfl) (by kernel_rfl) (fun _ _ _ h => h) (Or.inl ⟨by kernel_rfl, ?_⟩) hHeld ?_
      rotate_left
      · (intro w' hSw; (try dsimp only at hSw); go_simp; try with_reducible rfl)
      simp only [Act.put, List.setIfInBounds_toArray, List.set_cons_zero, List.set_cons_succ, List.getElem_toArray, List.getElem_cons_succ, List.getElem_cons_zero]
      refine wpAnyH_ready (rs := [8]) (by kernel_rfl) (by simp) (AllReadyH.cons rfl (fun K hK => ?_) AllReadyH.nil)
      go_simp
      refine (HC.out.2.2.2.1 _).mono ?_
      rintro y w4 ⟨rfl, rfl⟩
      refine hK.out _ _ (by exact H2.out.1.drew) (fun hHeld => ?_)
      clear hK K
      (try simp only [Act.put, List.setIfInBounds_toArray, List.set_cons_zero, List.set_cons_succ, List.getElem_toArray, List.getElem_cons_succ, List.getElem_cons_zero])
      refine wpAnyH_take (i := 9) (v := ?_) rfl (by kernel_rfl) (by kernel_rfl) (by kernel_rfl) (fun _ _ _ h => h) (Or.inl ⟨by kernel_rfl, ?_⟩) hHeld ?_
      rotate_left
      · (intro w' hSw; (try dsimp only at hSw); go_simp; try with_reducible rfl)
      simp only [Act.put, List.setIfInBounds_toArray, List.set_cons_zero, List.set_cons_succ, List.getElem_toArray, List.getElem_cons_succ, List.getElem_cons_zero]
      refine wpAnyH_take (i := 10) (v := ?_) rfl (by kernel_rfl) (by kernel_rfl) (by kernel_rfl) (fun _ _ _ h => h) (Or.inl ⟨by kernel_rfl, ?_⟩) hHeld ?_
      rotate_left
      · (intro w' hSw; (try dsimp only at hSw); go_simp; try with_reducible rfl)
      simp only [Act.put, List.setIfInBounds_toArray, List.set_cons_zero, List.set_cons_succ, List.getElem_toArray, List.getElem_cons_succ, List.getElem_cons_zero]
      refine wpAnyH_done (by kernel_rfl) ?_ _
      go_wp2_with fail
      go_ret
      refine ⟨_, rfl, ?_, H2.out.2.1.drew⟩
      show Value.string _ = Value.string ⟨R.toArray⟩
      rw [HT.out.1, HT.out.2, ← HS.out]
      simp [Lib.join, List.intercalate, List.intersperse]
    · go_wp2_with fail
      refine wp_region_held_drew (S := (fun w' => InsB w' B op a b c imm)) (by kernel_rfl) (by exact H2.out.1.drew) (fun hHeld => ?_)
      refine wpAnyH_take (i := 0) (v := ?_) rfl (by kernel_rfl) (by kernel_rfl) (by kernel_rfl) (fun _ _ _ h => h) (Or.inl ⟨by kernel_rfl, ?_⟩) hHeld ?_
      rotate_left
      · (intro w' hSw; obtain ⟨hS0, hS1, hS2, hS3, hS4⟩ := hSw; go_simp; try with_reducible rfl)
      simp only [Act.put, List.setIfInBounds_toArray, List.set_cons_zero, List.set_cons_succ, List.getElem_toArray, List.getElem_cons_succ, List.getElem_cons_zero]
      refine wpAnyH_take (i := 1) (v := ?_) rfl (by kernel_rfl) (by kernel_rfl) (by kernel_rfl) (fun _ _ _ h => h) (Or.inl ⟨by kernel_rfl, ?_⟩) hHeld ?_
      rotate_left
      · (intro w' hSw; obtain ⟨hS0, hS1, hS2, hS3, hS4⟩ := hSw; go_simp; try with_reducible rfl)
      simp only [Act.put, List.setIfInBounds_toArray, List.set_cons_zero, List.set_cons_succ, List.getElem_toArray, List.getElem_cons_succ, List.getElem_cons_zero]
      refine wpAnyH_take (i := 2) (v := ?_) rfl (by kernel_rfl) (by kernel_rfl) (by kernel_rfl) (fun _ _ _ h => h) (Or.inl ⟨by kernel_rfl, ?_⟩) hHeld ?_
      rotate_left
      · (intro w' hSw; obtain ⟨hS0, hS1, hS2, hS3, hS4⟩ := hSw; go_simp; try with_reducible rfl)
      simp only [Act.put, List.setIfInBounds_toArray, List.set_cons_zero, List.set_cons_succ, List.getElem_toArray, List.getElem_cons_succ, List.getElem_cons_zero]
      refine wpAnyH_take (i := 6) (v := ?_) rfl (by kernel_rfl) (by kernel_rfl) (by kernel_rfl) (fun _ _ _ h => h) (Or.inl ⟨by kernel_rfl, ?_⟩) hHeld ?_
      rotate_left
      · (intro w' hSw; obtain ⟨hS0, hS1, hS2, hS3, hS4⟩ := hSw; go_simp; try with_reducible rfl)
      simp only [Act.put, List.setIfInBounds_toArray, List.set_cons_zero, List.set_cons_succ, List.getElem_toArray, List.getElem_cons_succ, List.getElem_cons_zero]
      refine wpAnyH_take (i := 7) (v := ?_) rfl (by kernel_rfl) (by kernel_rfl) (by kernel_rfl) (fun _ _ _ h => h) (Or.inl ⟨by kernel_rfl, ?_⟩) hHeld ?_
      rotate_left
      · (intro w' hSw; obtain ⟨hS0, hS1, hS2, hS3, hS4⟩ := hSw; go_simp; try with_reducible rfl)
      simp only [Act.put, List.setIfInBounds_toArray, List.set_cons_zero, List.set_cons_succ, List.getElem_toArray, List.getElem_cons_succ, List.getElem_cons_zero]
      refine wpAnyH_take (i := 11) (v := ?_) rfl (by kernel_rfl) (by kernel_rfl) (by kernel_rfl) (fun _ _ _ h => h) (Or.inl ⟨by kernel_rfl, ?_⟩) hHeld ?_
      rotate_left
      · (intro w' hSw; obtain ⟨hS0, hS1, hS2, hS3, hS4⟩ := hSw; go_simp; try with_reducible rfl)
      simp only [Act.put, List.setIfInBounds_toArray, List.set_cons_zero, List.set_cons_succ, List.getElem_toArray, List.getElem_cons_succ, List.getElem_cons_zero]
      refine wpAnyH_take (i := 12) (v := ?_) rfl (by kernel_rfl) (by kernel_rfl) (by kernel_rfl) (fun _ _ _ h => h) (Or.inl ⟨by kernel_rfl, ?_⟩) hHeld ?_
      rotate_left
      · (intro w' hSw; obtain ⟨hS0, hS1, hS2, hS3, hS4⟩ := hSw; go_simp; try with_reducible rfl)
      simp only [Act.put, List.setIfInBounds_toArray, List.set_cons_zero, List.set_cons_succ, List.getElem_toArray, List.getElem_cons_succ, List.getElem_cons_zero]
      refine wpAnyH_ready (rs := [3]) (by kernel_rfl) (by simp) (AllReadyH.cons rfl (fun K hK => ?_) AllReadyH.nil)
      go_simp
      refine (HC.out.1 _).mono ?_
      rintro y w4 ⟨rfl, rfl⟩
      refine hK.out _ _ (by exact H2.out.1.drew) (fun hHeld => ?_)
      clear hK K
      (try simp only [Act.put, List.setIfInBounds_toArray, List.set_cons_zero, List.set_cons_succ, List.getElem_toArray, List.getElem_cons_succ, List.getElem_cons_zero])
      refine wpAnyH_take (i := 4) (v := ?_) rfl (by kernel_rfl) (by kernel_rfl) (by kernel_rfl) (fun _ _ _ h => h) (Or.inl ⟨by kernel_rfl, ?_⟩) hHeld ?_
      rotate_left
      · (intro w' hSw; (try dsimp only at hSw); go_simp; try with_reducible rfl)
      simp only [Act.put, List.setIfInBounds_toArray, List.set_cons_zero, List.set_cons_succ, List.getElem_toArray, List.getElem_cons_succ, List.getElem_cons_zero]
      refine wpAnyH_take (i := 5) (v := ?_) rfl (by kernel_rfl) (by kernel_rfl) (by kernel_rfl) (fun _ _ _ h => h) (Or.inl ⟨by kernel_rfl, ?_⟩) hHeld ?_
      rotate_left
      · (intro w' hSw; (try dsimp only at hSw); go_simp; try with_reducible rfl)
      simp only [Act.put, List.setIfInBounds_toArray, List.set_cons_zero, List.set_cons_succ, List.getElem_toArray, List.getElem_cons_succ, List.getElem_cons_zero]
      refine wpAnyH_ready (rs := [8]) (by kernel_rfl) (by simp) (AllReadyH.cons rfl (fun K hK => ?_) AllReadyH.nil)
      go_simp
      refine (HC.out.2.2.2.1 _).mono ?_
      rintro y w4 ⟨rfl, rfl⟩
      refine hK.out _ _ (by exact H2.out.1.drew) (fun hHeld => ?_)
      clear hK K
      (try simp only [Act.put, List.setIfInBounds_toArray, List.set_cons_zero, List.set_cons_succ, List.getElem_toArray, List.getElem_cons_succ, List.getElem_cons_zero])
      refine wpAnyH_take (i := 9) (v := ?_) rfl (by kernel_rfl) (by kernel_rfl) (by kernel_rfl) (fun _ _ _ h => h) (Or.inl ⟨by kernel_rfl, ?_⟩) hHeld ?_
      rotate_left
      · (intro w' hSw; (try dsimp only at hSw); go_simp; try with_reducible rfl)
      simp only [Act.put, List.setIfInBounds_toArray, List.set_cons_zero, List.set_cons_succ, List.getElem_toArray, List.getElem_cons_succ, List.getElem_cons_zero]
      refine wpAnyH_take (i := 10) (v := ?_) rfl (by kernel_rfl) (by kernel_rfl) (by kernel_rfl) (fun _ _ _ h => h) (Or.inl ⟨by kernel_rfl, ?_⟩) hHeld ?_
      rotate_left
      · (intro w' hSw; (try dsimp only at hSw); go_simp; try with_reducible rfl)
      simp only [Act.put, List.setIfInBounds_toArray, List.set_cons_zero, List.set_cons_succ, List.getElem_toArray, List.getElem_cons_succ, List.getElem_cons_zero]
      refine wpAnyH_ready (rs := [13]) (by kernel_rfl) (by simp) (AllReadyH.cons rfl (fun K hK => ?_) AllReadyH.nil)
      go_simp
      refine (HC.out.2.1 _).mono ?_
      rintro y w4 ⟨rfl, rfl⟩
      refine hK.out _ _ (by exact H2.out.1.drew) (fun hHeld => ?_)
      clear hK K
      (try simp only [Act.put, List.setIfInBounds_toArray, List.set_cons_zero, List.set_cons_succ, List.getElem_toArray, List.getElem_cons_succ, List.getElem_cons_zero])
      refine wpAnyH_take (i := 14) (v := ?_) rfl (by kernel_rfl) (by kernel_rfl) (by kernel_rfl) (fun _ _ _ h => h) (Or.inl ⟨by kernel_rfl, ?_⟩) hHeld ?_
      rotate_left
      · (intro w' hSw; (try dsimp only at hSw); go_simp; try with_reducible rfl)
      simp only [Act.put, List.setIfInBounds_toArray, List.set_cons_zero, List.set_cons_succ, List.getElem_toArray, List.getElem_cons_succ, List.getElem_cons_zero]
      refine wpAnyH_take (i := 15) (v := ?_) rfl (by kernel_rfl) (by kernel_rfl) (by kernel_rfl) (fun _ _ _ h => h) (Or.inl ⟨by kernel_rfl, ?_⟩) hHeld ?_
      rotate_left
      · (intro w' hSw; (try dsimp only at hSw); go_simp; try with_reducible rfl)
      simp only [Act.put, List.setIfInBounds_toArray, List.set_cons_zero, List.set_cons_succ, List.getElem_toArray, List.getElem_cons_succ, List.getElem_cons_zero]
      refine wpAnyH_take (i := 16) (v := ?_) rfl (by kernel_rfl) (by kernel_rfl) (by kernel_rfl) (fun _ _ _ h => h) (Or.inl ⟨by kernel_rfl, ?_⟩) hHeld ?_
      rotate_left
      · (intro w' hSw; (try dsimp only at hSw); go_simp; try with_reducible rfl)
      simp only [Act.put, List.setIfInBounds_toArray, List.set_cons_zero, List.set_cons_succ, List.getElem_toArray, List.getElem_cons_succ, List.getElem_cons_zero]
      refine wpAnyH_done (by kernel_rfl) ?_ _
      go_wp2_with fail
      go_ret
      refine ⟨_, rfl, ?_, H2.out.2.1.drew⟩
      show Value.string _ = Value.string ⟨R.toArray⟩
      rw [HT.out.1, HT.out.2, ← HS.out]
      simp [Lib.join, List.intercalate, List.intersperse]
    · have y4 := H2.out.1.c4
      go_wp2_with fail
      refine (HC.out.2.2.2.1 _).mono ?_
      rintro y w4 ⟨rfl, rfl⟩
      go_wp2_with fail
      go_ret
      refine ⟨_, rfl, ?_, H2.out.2.1⟩
      show Value.string _ = Value.string ⟨R.toArray⟩
      rw [HT.out.1, HT.out.2, ← HS.out]
      simp [Lib.join, List.intercalate, List.intersperse]
end Go.Proofs.YtmmnkoeajdeldaaGreatDoor
