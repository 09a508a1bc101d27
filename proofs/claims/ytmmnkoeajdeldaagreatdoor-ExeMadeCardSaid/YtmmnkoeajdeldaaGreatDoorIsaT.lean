/- strings.Join at this seat (the shelf's contract, laid by hand: its tool leaves this one out). An instruction's text: the register's, the line of pieces. An instruction's text. -/
import Derived.Test.YtmmnkoeajdeldaaGreatDoorBase
import Derived.Test.YtmmnkoeajdeldaaGreatDoorLib2
import Derived.Shelf.Strings.BuilderX
import Derived.Test.YtmmnkoeajdeldaaGreatDoorLib
import Derived.Test.YtmmnkoeajdeldaaGreatDoorIsaW1
import Derived.Test.YtmmnkoeajdeldaaGreatDoorAsTx
import Derived.Test.YtmmnkoeajdeldaaGreatDoorAsX4
import Derived.Deep.CutRange
namespace Go.Proofs.YtmmnkoeajdeldaaGreatDoor
open Go.RowKit
theorem joinX : Builder.Extra Tryz.prog Tryz.lays156_ren where
  sizeBuilder := by kernel_rfl
  liesBuilder := by kernel_rfl
  t5 := Tryz.underlying5
  a5 := Tryz.isAgg5
  z5 := Tryz.sizeOf5
  v5 := Tryz.zeroValue5
  infoByte := by kernel_rfl
  cellsByte := by kernel_rfl
  sizeByte := by kernel_rfl
  neB5 := of_decide_eq_true (by kernel_rfl)
theorem join_many (bk o c : Nat) (xs : List ByteArray) (sep : ByteArray) (w : World)
    (hcells : ∀ (j : Nat) x, xs[j]? = some x → w.cell? ⟨bk, o + j, none⟩ = some (.string x))
    (hbk : bk < w.heap.size) (h2 : 2 ≤ xs.length) (hN : xs.length ≤ 140737488355328) (hcap : xs.length ≤ c)
    (hlen : (Lib.join (xs.map (·.data.toList)) sep.data.toList).length ≤ 140737488355328) :
    Calls Tryz.prog 80 #[.slice (some ⟨bk, o, none⟩) xs.length c, .string sep] w fun e w' => e = .returned (.string ⟨(Lib.join (xs.map (·.data.toList)) sep.data.toList).toArray⟩) ∧ Below w.heap.size w w' :=
  Any.strings_Join_many Tryz.lays156 joinX bk o c xs sep w hcells hbk h2 hN hcap hlen
end Go.Proofs.YtmmnkoeajdeldaaGreatDoor
namespace Go.Proofs.YtmmnkoeajdeldaaGreatDoor
open Go.RowKit
set_option linter.unusedVariables false
set_option linter.unusedSimpArgs false
attribute [local go_sem] ba_get ba_cut ba_add
set_option maxRecDepth 100000 in
theorem regtx_any (r : Nat) (hr : r < 100) (w : World) : Calls Tryz.prog 37 #[.int .u8 (r : Int)] w (Ret (.string ⟨(114 :: Lib.itoa (r : Int)).toArray⟩) w) := by
  have hc := fun W => Tryz.strconv_Itoa_small r hr W
  have HC := Lib.hid hc
  have e : Lib.itoa (r : Int) = Lib.decDigits r := by
    unfold Lib.itoa; simp
  have hl := (Pl.itoa_len (v := (r : Int)) ⟨by omega, by omega⟩).2
  rw [e] at hl ⊢
  clear hc e
  go_enter Tryz.func37, Tryz.ntmps37
  go_wp2_with fail
  (with_reducible refine (HC.out _).mono ?_)
  rintro x w1 ⟨rfl, rfl⟩
  go_wp2_with fail
  go_ret
  exact ⟨rfl, rfl⟩
set_option maxRecDepth 100000 in
theorem line_any (s : List UInt8) (bk c : Nat) (xs : List (List UInt8)) (w : World) (hs : s.length ≤ 1000) (hcells : ∀ (j : Nat) x, xs[j]? = some x → w.cell? ⟨bk, 0 + j, none⟩ = some (.string ⟨x.toArray⟩)) (hbk : bk < w.heap.size) (h2 : 2 ≤ xs.length) (hN : xs.length ≤ 10) (hcap : xs.length ≤ c) (hlen : (Lib.join xs [44, 32]).length ≤ 100000) :
    Calls Tryz.prog 39 #[.string ⟨s.toArray⟩, .slice (some ⟨bk, 0, none⟩) xs.length c] w (RetB (fun v _ => v = .string ⟨(s ++ 32 :: Lib.join xs [44, 32]).toArray⟩) w) := by
  have hx : (xs.map fun x => (⟨x.toArray⟩ : ByteArray)).map (·.data.toList) = xs := by
    rw [List.map_map]
    exact (List.map_congr_left fun _ _ => rfl).trans (List.map_id xs)
  have hj := join_many bk 0 c (xs.map fun x => ⟨x.toArray⟩) ⟨#[44, 32]⟩ w (fun j x h => by
    simp only [List.getElem?_map, Option.map_eq_some_iff] at h
    obtain ⟨y, hy, rfl⟩ := h
    exact hcells j y hy) hbk (by simpa using h2) (by simp; omega) (by simpa using hcap) (by rw [hx]; show (Lib.join xs [44, 32]).length ≤ _; omega)
  rw [hx, List.length_map] at hj
  have HJ := Lib.hid hj
  obtain ⟨J, hJ⟩ : ∃ J, Lib.join xs [44, 32] = J := ⟨_, rfl⟩
  have e : Lib.join xs (⟨#[44, 32]⟩ : ByteArray).data.toList = J := hJ
  rw [e] at HJ
  rw [hJ] at hlen ⊢
  clear hj hJ e hx
  go_enter Tryz.func39, Tryz.ntmps39
  go_wp2_with fail
  (with_reducible refine HJ.out.mono ?_)
  rintro x w1 ⟨rfl, hb⟩
  have HB := Lib.hid hb
  clear hb
  go_wp2_with fail
  go_ret
  exact ⟨_, rfl, by simp, HB.out⟩
set_option maxRecDepth 100000 in
set_option maxHeartbeats 1000000 in
theorem join_one (bk c : Nat) (x : List UInt8) (sep : ByteArray) (w : World) (hc : w.cell? ⟨bk, 0, none⟩ = some (.string ⟨x.toArray⟩)) (hb : bk < w.heap.size) : Calls Tryz.prog 80 #[.slice (some ⟨bk, 0, none⟩) 1 c, .string sep] w (RetB (fun v _ => v = .string ⟨x.toArray⟩) w) := by
  go_enter Tryz.func80, Tryz.ntmps80
  go_wp2_with fail
  go_ret
  exact ⟨_, rfl, rfl, Below.refl _ _⟩
set_option maxRecDepth 100000 in
theorem line_one (s : List UInt8) (bk c : Nat) (x : List UInt8) (w : World) (hs : s.length ≤ 1000) (hc : w.cell? ⟨bk, 0, none⟩ = some (.string ⟨x.toArray⟩)) (hb : bk < w.heap.size) (hx : x.length ≤ 1000) :
    Calls Tryz.prog 39 #[.string ⟨s.toArray⟩, .slice (some ⟨bk, 0, none⟩) 1 c] w (RetB (fun v _ => v = .string ⟨(s ++ 32 :: x).toArray⟩) w) := by
  have hj := fun sep => join_one bk c x sep w hc hb
  have HJ := Lib.hid hj
  clear hj
  go_enter Tryz.func39, Tryz.ntmps39
  go_wp2_with fail
  (with_reducible refine (HJ.out _).mono ?_)
  rintro y w1 ⟨v, rfl, rfl, hb⟩
  have HB := Lib.hid hb
  clear hb
  go_wp2_with fail
  go_ret
  exact ⟨_, rfl, by simp, HB.out⟩
end Go.Proofs.YtmmnkoeajdeldaaGreatDoor
namespace Go.Proofs.YtmmnkoeajdeldaaGreatDoor
open Go.RowKit
set_option linter.unusedVariables false
set_option linter.unusedSimpArgs false
attribute [local go_sem] ba_get ba_cut ba_add
/-- An instruction's cells, and its operation's name. -/
structure InsAt (w : World) (B op a b c : Nat) (imm : Int) (nm : List UInt8) : Prop where
  c0 : w.cell? ⟨B, 0, none⟩ = some (.int .u8 (op : Int))
  c1 : w.cell? ⟨B, 1, none⟩ = some (.int .u8 (a : Int))
  c2 : w.cell? ⟨B, 2, none⟩ = some (.int .u8 (b : Int))
  c3 : w.cell? ⟨B, 3, none⟩ = some (.int .u8 (c : Int))
  c4 : w.cell? ⟨B, 4, none⟩ = some (.int .i32 imm)
  cn : w.cell? ⟨0, op, none⟩ = some (.string ⟨nm.toArray⟩)
theorem InsAt.keep {w w' : World} {B op a b c : Nat} {imm : Int} {nm : List UInt8} (h : InsAt w B op a b c imm nm) (hb : Below w.heap.size w w') (hB : B < w.heap.size) (hg : 0 < w.heap.size) : InsAt w' B op a b c imm nm :=
  ⟨(hb.cell (p := ⟨_, 0, none⟩) hB).trans h.c0, (hb.cell (p := ⟨_, 1, none⟩) hB).trans h.c1, (hb.cell (p := ⟨_, 2, none⟩) hB).trans h.c2, (hb.cell (p := ⟨_, 3, none⟩) hB).trans h.c3, (hb.cell (p := ⟨_, 4, none⟩) hB).trans h.c4, (hb.cell (p := ⟨_, op, none⟩) hg).trans h.cn⟩
theorem InsAt.drew {w : World} {B op a b c : Nat} {imm : Int} {nm : List UInt8} (h : InsAt w B op a b c imm nm) : InsAt w.drew B op a b c imm nm := ⟨h.c0, h.c1, h.c2, h.c3, h.c4, h.cn⟩
theorem itoa_reg (r : Nat) (h : r < 16) : (Lib.itoa (r : Int)).length ≤ 20 := (Pl.itoa_len (v := (r : Int)) ⟨by omega, by omega⟩).2
theorem join_len3 (x y z : List UInt8) (hx : x.length ≤ 100) (hy : y.length ≤ 100) (hz : z.length ≤ 100) : (Lib.join [x, y, z] [44, 32]).length ≤ 1000 := by
  simp [Lib.join, List.intercalate, List.intersperse]; omega
theorem join_len2 (x y : List UInt8) (hx : x.length ≤ 100) (hy : y.length ≤ 100) : (Lib.join [x, y] [44, 32]).length ≤ 1000 := by
  simp [Lib.join, List.intercalate, List.intersperse]; omega
theorem rows_str {w : World} {B : Nat} (xs : List (List UInt8)) (h : w.heap[B]? = some (.cells (xs.map fun x => Value.string ⟨x.toArray⟩).toArray 9 (0, 0))) (j : Nat) (x : List UInt8) (hx : xs[j]? = some x) : w.cell? ⟨B, 0 + j, none⟩ = some (.string ⟨x.toArray⟩) := by
  rw [cell_row w B _ _ _ h]
  simp [hx]
set_option maxRecDepth 100000 in
set_option maxHeartbeats 4000000 in
theorem itext_any (x : Pl.Ins) (w : World) (h : Pl.InsOk x) (hO : OpTab w) (hT : VTab w) : Calls Tryz.prog 13 #[insV x] w (RetB (fun v _ => v = .string ⟨(Pl.textI x).toArray⟩) w) := by
  have hE := fun W => enc_any x W h
  obtain ⟨R, hR⟩ : ∃ R, Pl.textI x = R := ⟨_, rfl⟩
  rw [hR]
  have HX := Lib.hid (And.intro hR (And.intro h (And.intro hO hT)))
  clear hR hO hT
  by_cases he : Pl.encE x = 0
  rotate_left
  · obtain ⟨k, hk⟩ : ∃ k, Pl.encE x = k := ⟨_, rfl⟩
    rw [hk] at he
    have hn : R = [] := by rw [← HX.out.1]; unfold Pl.textI; rw [if_neg (by rw [hk]; exact he)]
    subst hn
    have e2 : ∀ W, Calls Tryz.prog 36 #[insV x] W (RetB (fun v _ => v = .tuple #[.int .u32 0, .int .i64 (k : Int)]) W) := fun W => by
      have := hE W
      rw [encV_err hk he] at this
      exact this
    have HE := Lib.hid e2
    clear e2 hE hk
    obtain ⟨op, a, b, c, imm⟩ := x
    have hk2 : ((k : Int) == 0) = false := by rw [beq_eq_false_iff_ne]; omega
    unfold insV at HE ⊢
    simp only at HE ⊢
    go_enter Tryz.func13, Tryz.ntmps13
    go_wp2_with fail
    (with_reducible refine (HE.out _).mono ?_)
    rintro y w1 ⟨v, rfl, rfl, hb⟩
    go_wp2_with fail
    go_ret
    exact ⟨_, rfl, rfl, ((Below.refl _ _).alloc (Nat.le_refl _) _).trans (hb.mono (by simp))⟩
  · have ho := Pl.enc_op he
    have hfl := fun W => fields_any x.op W h.op
    have e2 : ∀ W, Calls Tryz.prog 36 #[insV x] W (RetB (fun v _ => v = .tuple #[.int .u32 (Pl.wordOf x : Int), .int .i64 0]) W) := fun W => by
      have := hE W
      rw [encV_ok he] at this
      exact this
    have HE := Lib.hid (And.intro e2 hfl)
    clear e2 hE hfl
    obtain ⟨op, a, b, c, imm⟩ := x
    unfold insV at HE ⊢
    simp only at HE ho ⊢
    go_enter Tryz.func13, Tryz.ntmps13
    go_wp2_with fail
    refine (HE.out.1 _).mono ?_
    rintro y w1 ⟨v, rfl, rfl, hb⟩
    obtain ⟨B, hB⟩ : ∃ B, w.heap.size = B := ⟨_, rfl⟩
    have hz1 : w1.heap[B]? = some (.cells #[.int .u8 (op : Int), .int .u8 (a : Int), .int .u8 (b : Int), .int .u8 (c : Int), .int .i32 imm] 33 (0, 0)) := by
      rw [hb.block B (by simp; omega), ← hB]
      exact heap_alloc_new _ _
    have hb1 : Below w.heap.size w w1 := ((Below.refl _ _).alloc (Nat.le_refl _) _).trans (hb.mono (by simp))
    rw [hB]
    have c0 : w1.cell? ⟨B, 0, none⟩ = some (.int .u8 (op : Int)) := by rw [cell_row w1 B 0 _ _ hz1]; rfl
    have H1 := Lib.hid (And.intro hz1 hb1)
    clear hb hz1 hb1
    have hnm : opNsV[op]? = some (.string ⟨(Pl.nameO op).toArray⟩) := by
      obtain ⟨k, rfl⟩ : ∃ k, op = k + 1 := ⟨op - 1, by omega⟩
      have hk : k < Pl.opNs.length := by have : Pl.opNs.length = 31 := rfl; omega
      simp [opNsV, Pl.nameO, hk]
    obtain ⟨nm, hnm2⟩ : ∃ z, Pl.nameO op = z := ⟨_, rfl⟩
    rw [hnm2] at hnm
    have hB1 : B < w1.heap.size := blk_lt H1.out.1
    have hO1 := HX.out.2.2.1.below H1.out.2
    have hS1 : InsAt w1 B op a b c imm nm := ⟨c0, by rw [cell_row w1 B 1 _ _ H1.out.1]; rfl, by rw [cell_row w1 B 2 _ _ H1.out.1]; rfl, by rw [cell_row w1 B 3 _ _ H1.out.1]; rfl, by rw [cell_row w1 B 4 _ _ H1.out.1]; rfl, by have := hO1.at_ op _ hnm; rwa [Nat.zero_add] at this⟩
    have HS1 := Lib.hid (And.intro hS1 (And.intro hO1 (And.intro hB1 hnm2)))
    clear hnm hnm2 hS1 hO1
    go_wp2_with fail
    (with_reducible refine (HE.out.2 _).mono ?_)
    rintro y w2 ⟨v, rfl, rfl, hb⟩
    unfold fieldsV
    have HB2 := Lib.hid hb
    clear hb
    go_upto_region 6 with (fail)
    obtain ⟨k, hk⟩ : ∃ k, Pl.cls op = k := ⟨_, rfl⟩
    rw [hk]
    obtain ⟨w3, hw3⟩ : ∃ V, w2.alloc (.cells #[.bool (k == 1 || k == 2 || k == 4), .bool (k == 1 || k == 4), .bool (k == 1), .bool (k == 2 || k == 3 || k == 4)] 80) = V := ⟨_, rfl⟩
    obtain ⟨C, hC⟩ : ∃ C, w2.heap.size = C := ⟨_, rfl⟩
    have hz3 : w3.heap[C]? = some (.cells #[.bool (k == 1 || k == 2 || k == 4), .bool (k == 1 || k == 4), .bool (k == 1), .bool (k == 2 || k == 3 || k == 4)] 80 (0, 0)) := by rw [← hw3, ← hC]; exact heap_alloc_new _ _
    have hb3 : Below w1.heap.size w1 w3 := by rw [← hw3]; exact HB2.out.alloc HB2.out.size _
    rw [hw3, hC]
    have hG1 : 0 < w1.heap.size := HS1.out.2.1.lt
    have hS3 := HS1.out.1.keep hb3 HS1.out.2.2.1 hG1
    have hG3 : 0 < w3.heap.size := Nat.lt_of_lt_of_le hG1 hb3.size
    have hB3 : B < w3.heap.size := Nat.lt_of_lt_of_le HS1.out.2.2.1 hb3.size
    have hC3 : C < w3.heap.size := blk_lt hz3
    have hT3 : VTab w3 := (HX.out.2.2.2.below H1.out.2).below hb3
    have h0 := h.i0
    have h1 := h.i1
    dsimp only at h0 h1
    have HI := Lib.hid (fun W hT => Tryz.strconv_Itoa imm (by omega) (by omega) W hT)
    have H3 := Lib.hid (And.intro hz3 (And.intro hb3 (And.intro hS3 (And.intro hT3 (And.intro hG3 (And.intro hB3 hC3))))))
    clear hz3 hb3 hS3 hT3 hG3 hB3 hC3 hC hw3 hG1
    have ho31 : (op : Int) < 32 := by omega
    refine wp_region_held_drew (S := (fun w' => InsAt w' B op a b c imm nm)) (by kernel_rfl) (by exact H3.out.2.2.1.drew) (fun hHeld => ?_)
    refine wpAnyH_take (i := 0) (v := ?_) rfl (by kernel_rfl) (by kernel_rfl) (by kernel_rfl) (fun _ _ _ h => h) (Or.inl ⟨by kernel_rfl, ?_⟩) hHeld ?_
    rotate_left
    · (intro w' hSw; obtain ⟨hS0, hS1, hS2, hS3, hS4, hS5⟩ := hSw; go_simp; try with_reducible rfl)
    simp only [Act.put, List.setIfInBounds_toArray, List.set_cons_zero, List.set_cons_succ, List.getElem_toArray, List.getElem_cons_succ, List.getElem_cons_zero]
    refine wpAnyH_take (i := 1) (v := ?_) rfl (by kernel_rfl) (by kernel_rfl) (by kernel_rfl) (fun _ _ _ h => h) (Or.inl ⟨by kernel_rfl, ?_⟩) hHeld ?_
    rotate_left
    · (intro w' hSw; obtain ⟨hS0, hS1, hS2, hS3, hS4, hS5⟩ := hSw; go_simp; try with_reducible rfl)
    simp only [Act.put, List.setIfInBounds_toArray, List.set_cons_zero, List.set_cons_succ, List.getElem_toArray, List.getElem_cons_succ, List.getElem_cons_zero]
    refine wpAnyH_take (i := 2) (v := ?_) rfl (by kernel_rfl) (by kernel_rfl) (by kernel_rfl) (fun _ _ _ h => h) (Or.inl ⟨by kernel_rfl, ?_⟩) hHeld ?_
    rotate_left
    · (intro w' hSw; obtain ⟨hS0, hS1, hS2, hS3, hS4, hS5⟩ := hSw; go_simp; try with_reducible rfl)
    simp only [Act.put, List.setIfInBounds_toArray, List.set_cons_zero, List.set_cons_succ, List.getElem_toArray, List.getElem_cons_succ, List.getElem_cons_zero]
    refine wpAnyH_take (i := 3) (v := ?_) rfl (by kernel_rfl) (by kernel_rfl) (by kernel_rfl) (fun _ _ _ h => h) (Or.inl ⟨by kernel_rfl, ?_⟩) hHeld ?_
    rotate_left
    · (intro w' hSw; obtain ⟨hS0, hS1, hS2, hS3, hS4, hS5⟩ := hSw; go_simp; try with_reducible rfl)
    simp only [Act.put, List.setIfInBounds_toArray, List.set_cons_zero, List.set_cons_succ, List.getElem_toArray, List.getElem_cons_succ, List.getElem_cons_zero]
    refine wpAnyH_take (i := 4) (v := ?_) rfl (by kernel_rfl) (by kernel_rfl) (by kernel_rfl) (fun _ _ _ h => h) (Or.inl ⟨by kernel_rfl, ?_⟩) hHeld ?_
    rotate_left
    · (intro w' hSw; obtain ⟨hS0, hS1, hS2, hS3, hS4, hS5⟩ := hSw; go_simp; try with_reducible rfl)
    simp only [Act.put, List.setIfInBounds_toArray, List.set_cons_zero, List.set_cons_succ, List.getElem_toArray, List.getElem_cons_succ, List.getElem_cons_zero]
    refine wpAnyH_take (i := 5) (v := ?_) rfl (by kernel_rfl) (by kernel_rfl) (by kernel_rfl) (fun _ _ _ h => h) (Or.inl ⟨by kernel_rfl, ?_⟩) hHeld ?_
    rotate_left
    · (intro w' hSw; obtain ⟨hS0, hS1, hS2, hS3, hS4, hS5⟩ := hSw; go_simp; try with_reducible rfl)
    simp only [Act.put, List.setIfInBounds_toArray, List.set_cons_zero, List.set_cons_succ, List.getElem_toArray, List.getElem_cons_succ, List.getElem_cons_zero]
    refine wpAnyH_take (i := 6) (v := ?_) rfl (by kernel_rfl) (by kernel_rfl) (by kernel_rfl) (fun _ _ _ h => h) (Or.inl ⟨by kernel_rfl, ?_⟩) hHeld ?_
    rotate_left
    · (intro w' hSw; obtain ⟨hS0, hS1, hS2, hS3, hS4, hS5⟩ := hSw; go_simp; try with_reducible rfl)
    simp only [Act.put, List.setIfInBounds_toArray, List.set_cons_zero, List.set_cons_succ, List.getElem_toArray, List.getElem_cons_succ, List.getElem_cons_zero]
    refine wpAnyH_ready (rs := [7]) (by kernel_rfl) (by simp) (AllReadyH.cons rfl (fun K hK => ?_) AllReadyH.nil)
    go_simp
    have hwr : IntKind.i64.wrap imm = imm := IntWalk.i64_in _ (by omega)
    rw [hwr]
    refine (HI.out _ (by exact H3.out.2.2.2.1)).mono ?_
    rintro y w4 ⟨rfl, kk, os, hw4⟩
    have hb4 : Below w3.heap.size w3 w4 := by rw [hw4]; exact ((Below.refl _ _).drew).trans (below_grow w3.drew kk os)
    have hS4 := H3.out.2.2.1.keep hb4 H3.out.2.2.2.2.2.1 H3.out.2.2.2.2.1
    refine hK.out _ _ hS4 (fun hHeld => ?_)
    clear hK K
    (try simp only [Act.put, List.setIfInBounds_toArray, List.set_cons_zero, List.set_cons_succ, List.getElem_toArray, List.getElem_cons_succ, List.getElem_cons_zero])
    refine wpAnyH_take (i := 8) (v := ?_) rfl (by kernel_rfl) (by kernel_rfl) (by kernel_rfl) (fun _ _ _ h => h) (Or.inl ⟨by kernel_rfl, ?_⟩) hHeld ?_
    rotate_left
    · (intro w' hSw; (try dsimp only at hSw); go_simp; try with_reducible rfl)
    simp only [Act.put, List.setIfInBounds_toArray, List.set_cons_zero, List.set_cons_succ, List.getElem_toArray, List.getElem_cons_succ, List.getElem_cons_zero]
    refine wpAnyH_take (i := 9) (v := ?_) rfl (by kernel_rfl) (by kernel_rfl) (by kernel_rfl) (fun _ _ _ h => h) (Or.inl ⟨by kernel_rfl, ?_⟩) hHeld ?_
    rotate_left
    · (intro w' hSw; (try dsimp only at hSw); go_simp; try with_reducible rfl)
    simp only [Act.put, List.setIfInBounds_toArray, List.set_cons_zero, List.set_cons_succ, List.getElem_toArray, List.getElem_cons_succ, List.getElem_cons_zero]
    refine wpAnyH_done (by kernel_rfl) ?_ _
    have hz4 := (hb4.block C H3.out.2.2.2.2.2.2).trans H3.out.1
    have hbb4 := (H1.out.2).trans ((H3.out.2.1.trans (hb4.mono H3.out.2.1.size)).mono H1.out.2.size)
    have hG4 := Nat.lt_of_lt_of_le H3.out.2.2.2.2.1 hb4.size
    have hB4 := Nat.lt_of_lt_of_le H3.out.2.2.2.2.2.1 hb4.size
    have H4 := Lib.hid (And.intro hz4 (And.intro hS4 (And.intro hbb4 (And.intro hG4 hB4))))
    have hp := Pl.enc_parts he
    dsimp only at hp
    have HR := Lib.hid (fun (r : Nat) (hr : r < 16) W => regtx_any r (by omega) W)
    have hTx : R = nm ++ 32 :: Lib.join (Pl.piecesI ⟨op, a, b, c, imm⟩) [44, 32] := by
      rw [← HX.out.1, ← HS1.out.2.2.2]
      unfold Pl.textI
      rw [if_pos he]
    have hit := (Pl.itoa_len (v := imm) ⟨by omega, by omega⟩).2
    obtain ⟨it, hit2⟩ : ∃ z, Lib.itoa imm = z := ⟨_, rfl⟩
    rw [hit2] at hit ⊢
    have HT := Lib.hid (And.intro hTx hit2)
    clear hz4 hS4 hbb4 hG4 hB4 hb4 hw4 hHeld HI hTx hit2 HE H3 HB2
    have hkk : k = 1 ∨ k = 2 ∨ k = 3 ∨ k = 4 := by
      rw [← hk]; unfold Pl.cls; (repeat' split) <;> omega
    have c2 : w4.cell? ⟨C, 2, none⟩ = some (.bool (k == 1)) := by rw [cell_row w4 C 2 _ _ H4.out.1]; rfl
    have c1 : w4.cell? ⟨C, 1, none⟩ = some (.bool (k == 1 || k == 4)) := by rw [cell_row w4 C 1 _ _ H4.out.1]; rfl
    have c0 : w4.cell? ⟨C, 0, none⟩ = some (.bool (k == 1 || k == 2 || k == 4)) := by rw [cell_row w4 C 0 _ _ H4.out.1]; rfl
    have hnl : nm.length ≤ 1000 := by
      have := (Pl.names_ok op ho.2 ho.1).2.2.2.2.2.2.2.2.1
      rw [HS1.out.2.2.2] at this
      omega
    have la : (Pl.rT a).length ≤ 21 := by have := itoa_reg a hp.1; simp [Pl.rT]; omega
    have lb : (Pl.rT b).length ≤ 21 := by have := itoa_reg b hp.2.1; simp [Pl.rT]; omega
    have lc : (Pl.rT c).length ≤ 21 := by have := itoa_reg c hp.2.2.1; simp [Pl.rT]; omega
    have hra : ∀ W, Calls Tryz.prog 37 #[.int .u8 (a : Int)] W (Ret (.string ⟨(Pl.rT a).toArray⟩) W) := HR.out a hp.1
    have hrb : ∀ W, Calls Tryz.prog 37 #[.int .u8 (b : Int)] W (Ret (.string ⟨(Pl.rT b).toArray⟩) W) := HR.out b hp.2.1
    have hrc : ∀ W, Calls Tryz.prog 37 #[.int .u8 (c : Int)] W (Ret (.string ⟨(Pl.rT c).toArray⟩) W) := HR.out c hp.2.2.1
    have hpt : Pl.piecesI ⟨op, a, b, c, imm⟩ = if Pl.formN op = 1 then [Pl.rT a, Pl.rT b, Pl.rT c] else if Pl.formN op = 2 then [Pl.rT a, Pl.rT b, it] else if Pl.formN op = 3 then [Pl.rT a, it] else if Pl.formN op = 4 then [Pl.rT a, it ++ 40 :: (Pl.rT b ++ [41])] else [it] := by rw [← HT.out.2]; rfl
    have g1 : ¬ 9223372036854775807 < it.length + 1 := by omega
    obtain ⟨ta, hta⟩ : ∃ z, Pl.rT a = z := ⟨_, rfl⟩
    obtain ⟨tb, htb⟩ : ∃ z, Pl.rT b = z := ⟨_, rfl⟩
    obtain ⟨tc, htc⟩ : ∃ z, Pl.rT c = z := ⟨_, rfl⟩
    rw [hta] at la hra hpt
    rw [htb] at lb hrb hpt
    rw [htc] at lc hrc hpt
    have g2 : ¬ 9223372036854775807 < it.length + 1 + tb.length := by omega
    have g3 : ¬ 9223372036854775807 < it.length + (tb.length + 1) := by omega
    have g4 : ¬ 9223372036854775807 < it.length + 1 + tb.length + 1 := by omega
    have g5 : ¬ 9223372036854775807 < it.length + (tb.length + 1) + 1 := by omega
    have g6 : ¬ 9223372036854775807 < it.length + (tb.length + 1 + 1) := by omega
    have HQ := Lib.hid (And.intro hra (And.intro hrb (And.intro hrc hpt)))
    clear hp hra hrb hrc hpt hta htb htc
    by_cases k1 : k = 1
    · subst k1
      have c2 : w4.cell? ⟨C, 2, none⟩ = some (.bool true) := c2
      have hf : Pl.formN op = 1 := by
        unfold Pl.cls at hk
        unfold Pl.formN
        split at hk
        · cases hk
        split at hk
        · rw [if_pos (by omega)]
        · (repeat' split at hk) <;> cases hk
      go_wp2_with fail
      refine wp_region_held_drew (S := (fun w' => InsAt w' B op a b c imm nm)) (by kernel_rfl) (by exact H4.out.2.1.drew) (fun hHeld => ?_)
      refine wpAnyH_take (i := 0) (v := ?_) rfl (by kernel_rfl) (by kernel_rfl) (by kernel_rfl) (fun _ _ _ h => h) (Or.inl ⟨by kernel_rfl, ?_⟩) hHeld ?_
      rotate_left
      · (intro w' hSw; obtain ⟨hS0, hS1, hS2, hS3, hS4, hS5⟩ := hSw; go_simp; try with_reducible rfl)
      simp only [Act.put, List.setIfInBounds_toArray, List.set_cons_zero, List.set_cons_succ, List.getElem_toArray, List.getElem_cons_succ, List.getElem_cons_zero]
      refine wpAnyH_take (i := 1) (v := ?_) rfl (by kernel_rfl) (by kernel_rfl) (by kernel_rfl) (fun _ _ _ h => h) (Or.inl ⟨by kernel_rfl, ?_⟩) hHeld ?_
      rotate_left
      · (intro w' hSw; obtain ⟨hS0, hS1, hS2, hS3, hS4, hS5⟩ := hSw; go_simp; try with_reducible rfl)
      simp only [Act.put, List.setIfInBounds_toArray, List.set_cons_zero, List.set_cons_succ, List.getElem_toArray, List.getElem_cons_succ, List.getElem_cons_zero]
      refine wpAnyH_take (i := 2) (v := ?_) rfl (by kernel_rfl) (by kernel_rfl) (by kernel_rfl) (fun _ _ _ h => h) (Or.inl ⟨by kernel_rfl, ?_⟩) hHeld ?_
      rotate_left
      · (intro w' hSw; obtain ⟨hS0, hS1, hS2, hS3, hS4, hS5⟩ := hSw; go_simp; try with_reducible rfl)
      simp only [Act.put, List.setIfInBounds_toArray, List.set_cons_zero, List.set_cons_succ, List.getElem_toArray, List.getElem_cons_succ, List.getElem_cons_zero]
      refine wpAnyH_take (i := 3) (v := ?_) rfl (by kernel_rfl) (by kernel_rfl) (by kernel_rfl) (fun _ _ _ h => h) (Or.inl ⟨by kernel_rfl, ?_⟩) hHeld ?_
      rotate_left
      · (intro w' hSw; obtain ⟨hS0, hS1, hS2, hS3, hS4, hS5⟩ := hSw; go_simp; try with_reducible rfl)
      simp only [Act.put, List.setIfInBounds_toArray, List.set_cons_zero, List.set_cons_succ, List.getElem_toArray, List.getElem_cons_succ, List.getElem_cons_zero]
      refine wpAnyH_take (i := 5) (v := ?_) rfl (by kernel_rfl) (by kernel_rfl) (by kernel_rfl) (fun _ _ _ h => h) (Or.inl ⟨by kernel_rfl, ?_⟩) hHeld ?_
      rotate_left
      · (intro w' hSw; obtain ⟨hS0, hS1, hS2, hS3, hS4, hS5⟩ := hSw; go_simp; try with_reducible rfl)
      simp only [Act.put, List.setIfInBounds_toArray, List.set_cons_zero, List.set_cons_succ, List.getElem_toArray, List.getElem_cons_succ, List.getElem_cons_zero]
      refine wpAnyH_take (i := 6) (v := ?_) rfl (by kernel_rfl) (by kernel_rfl) (by kernel_rfl) (fun _ _ _ h => h) (Or.inl ⟨by kernel_rfl, ?_⟩) hHeld ?_
      rotate_left
      · (intro w' hSw; obtain ⟨hS0, hS1, hS2, hS3, hS4, hS5⟩ := hSw; go_simp; try with_reducible rfl)
      simp only [Act.put, List.setIfInBounds_toArray, List.set_cons_zero, List.set_cons_succ, List.getElem_toArray, List.getElem_cons_succ, List.getElem_cons_zero]
      refine wpAnyH_take (i := 7) (v := ?_) rfl (by kernel_rfl) (by kernel_rfl) (by kernel_rfl) (fun _ _ _ h => h) (Or.inl ⟨by kernel_rfl, ?_⟩) hHeld ?_
      rotate_left
      · (intro w' hSw; obtain ⟨hS0, hS1, hS2, hS3, hS4, hS5⟩ := hSw; go_simp; try with_reducible rfl)
      simp only [Act.put, List.setIfInBounds_toArray, List.set_cons_zero, List.set_cons_succ, List.getElem_toArray, List.getElem_cons_succ, List.getElem_cons_zero]
      refine wpAnyH_take (i := 9) (v := ?_) rfl (by kernel_rfl) (by kernel_rfl) (by kernel_rfl) (fun _ _ _ h => h) (Or.inl ⟨by kernel_rfl, ?_⟩) hHeld ?_
      rotate_left
      · (intro w' hSw; obtain ⟨hS0, hS1, hS2, hS3, hS4, hS5⟩ := hSw; go_simp; try with_reducible rfl)
      simp only [Act.put, List.setIfInBounds_toArray, List.set_cons_zero, List.set_cons_succ, List.getElem_toArray, List.getElem_cons_succ, List.getElem_cons_zero]
      refine wpAnyH_take (i := 10) (v := ?_) rfl (by kernel_rfl) (by kernel_rfl) (by kernel_rfl) (fun _ _ _ h => h) (Or.inl ⟨by kernel_rfl, ?_⟩) hHeld ?_
      rotate_left
      · (intro w' hSw; obtain ⟨hS0, hS1, hS2, hS3, hS4, hS5⟩ := hSw; go_simp; try with_reducible rfl)
      simp only [Act.put, List.setIfInBounds_toArray, List.set_cons_zero, List.set_cons_succ, List.getElem_toArray, List.getElem_cons_succ, List.getElem_cons_zero]
      refine wpAnyH_take (i := 11) (v := ?_) rfl (by kernel_rfl) (by kernel_rfl) (by kernel_rfl) (fun _ _ _ h => h) (Or.inl ⟨by kernel_rfl, ?_⟩) hHeld ?_
      rotate_left
      · (intro w' hSw; obtain ⟨hS0, hS1, hS2, hS3, hS4, hS5⟩ := hSw; go_simp; try with_reducible rfl)
      simp only [Act.put, List.setIfInBounds_toArray, List.set_cons_zero, List.set_cons_succ, List.getElem_toArray, List.getElem_cons_succ, List.getElem_cons_zero]
      refine wpAnyH_ready (rs := [4]) (by kernel_rfl) (by simp) (AllReadyH.cons rfl (fun K hK => ?_) AllReadyH.nil)
      go_simp
      refine (HQ.out.1 _).mono ?_
      rintro y w5 ⟨rfl, rfl⟩
      refine hK.out _ _ (by exact H4.out.2.1.drew) (fun hHeld => ?_)
      clear hK K
      (try simp only [Act.put, List.setIfInBounds_toArray, List.set_cons_zero, List.set_cons_succ, List.getElem_toArray, List.getElem_cons_succ, List.getElem_cons_zero])
      refine wpAnyH_ready (rs := [8]) (by kernel_rfl) (by simp) (AllReadyH.cons rfl (fun K hK => ?_) AllReadyH.nil)
      go_simp
      refine (HQ.out.2.1 _).mono ?_
      rintro y w5 ⟨rfl, rfl⟩
      refine hK.out _ _ (by exact H4.out.2.1.drew) (fun hHeld => ?_)
      clear hK K
      (try simp only [Act.put, List.setIfInBounds_toArray, List.set_cons_zero, List.set_cons_succ, List.getElem_toArray, List.getElem_cons_succ, List.getElem_cons_zero])
      refine wpAnyH_ready (rs := [12]) (by kernel_rfl) (by simp) (AllReadyH.cons rfl (fun K hK => ?_) AllReadyH.nil)
      go_simp
      refine (HQ.out.2.2.1 _).mono ?_
      rintro y w5 ⟨rfl, rfl⟩
      refine hK.out _ _ (by exact H4.out.2.1.drew) (fun hHeld => ?_)
      clear hK K
      (try simp only [Act.put, List.setIfInBounds_toArray, List.set_cons_zero, List.set_cons_succ, List.getElem_toArray, List.getElem_cons_succ, List.getElem_cons_zero])
      refine wpAnyH_ready (rs := [13]) (by kernel_rfl) (by simp) (AllReadyH.cons rfl (fun K hK => ?_) AllReadyH.nil)
      go_simp
      obtain ⟨w5, hw5⟩ : ∃ V, w4.alloc (.cells #[.string ⟨(ta).toArray⟩, .string ⟨(tb).toArray⟩, .string ⟨(tc).toArray⟩] 9) = V := ⟨_, rfl⟩
      obtain ⟨D, hD⟩ : ∃ D, w4.heap.size = D := ⟨_, rfl⟩
      have hz5 : w5.heap[D]? = some (.cells #[.string ⟨(ta).toArray⟩, .string ⟨(tb).toArray⟩, .string ⟨(tc).toArray⟩] 9 (0, 0)) := by rw [← hw5, ← hD]; exact heap_alloc_new _ _
      have hb5 : Below w4.heap.size w4 w5 := by rw [← hw5]; exact (Below.refl _ _).alloc (Nat.le_refl _) _
      rw [hw5, hD]
      clear hw5
      have hS5 := H4.out.2.1.keep hb5 H4.out.2.2.2.2 H4.out.2.2.2.1
      have hln := line_any nm D 3 [ta, tb, tc] w5.drew hnl (rows_str (w := w5.drew) [ta, tb, tc] hz5) (blk_lt hz5) (by simp) (by simp) (by simp) (Nat.le_trans (join_len3 _ _ _ (by omega) (by omega) (by omega)) (by decide))
      have HL := Lib.hid hln
      have H5 := Lib.hid (And.intro hb5 hS5)
      clear hln hb5 hz5 hS5
      refine hK.out _ _ (by exact H5.out.2.drew) (fun hHeld => ?_)
      clear hK K
      (try simp only [Act.put, List.setIfInBounds_toArray, List.set_cons_zero, List.set_cons_succ, List.getElem_toArray, List.getElem_cons_succ, List.getElem_cons_zero])
      refine wpAnyH_ready (rs := [14]) (by kernel_rfl) (by simp) (AllReadyH.cons rfl (fun K hK => ?_) AllReadyH.nil)
      go_simp
      refine HL.out.mono ?_
      rintro y w6 ⟨v, rfl, rfl, hb6⟩
      have hb56 : Below w4.heap.size w4 w6 := H5.out.1.trans ((((Below.refl w5.heap.size w5).drew).trans hb6).mono H5.out.1.size)
      have hS6 := H4.out.2.1.keep hb56 H4.out.2.2.2.2 H4.out.2.2.2.1
      refine hK.out _ _ hS6 (fun hHeld => ?_)
      clear hK K
      (try simp only [Act.put, List.setIfInBounds_toArray, List.set_cons_zero, List.set_cons_succ, List.getElem_toArray, List.getElem_cons_succ, List.getElem_cons_zero])
      refine wpAnyH_take (i := 15) (v := ?_) rfl (by kernel_rfl) (by kernel_rfl) (by kernel_rfl) (fun _ _ _ h => h) (Or.inl ⟨by kernel_rfl, ?_⟩) hHeld ?_
      rotate_left
      · (intro w' hSw; (try dsimp only at hSw); go_simp; try with_reducible rfl)
      simp only [Act.put, List.setIfInBounds_toArray, List.set_cons_zero, List.set_cons_succ, List.getElem_toArray, List.getElem_cons_succ, List.getElem_cons_zero]
      refine wpAnyH_done (by kernel_rfl) ?_ _
      go_wp2_with fail
      go_ret
      refine ⟨_, rfl, ?_, H4.out.2.2.1.trans (hb56.mono H4.out.2.2.1.size)⟩
      rw [HT.out.1, HQ.out.2.2.2]
      simp only [hf]
      rfl
    have c2 : w4.cell? ⟨C, 2, none⟩ = some (.bool false) := by rw [c2]; simp [k1]
    rename_i c2o
    clear c2o
    have hf2 : (k = 4 ∧ (op = 20 ∨ op = 21 ∨ op = 22 ∨ op = 23 ∨ op = 24 ∨ op = 30) ∧ Pl.formN op = 4) ∨ (k = 4 ∧ (op < 20 ∨ (24 < op ∧ op < 30)) ∧ Pl.formN op = 2) ∨ (k = 2 ∧ (op = 19 ∨ op = 29) ∧ Pl.formN op = 3) ∨ (k = 3 ∧ op = 31 ∧ Pl.formN op = 5) := by
      unfold Pl.cls at hk
      unfold Pl.formN
      (repeat' split at hk) <;> (repeat' split) <;> omega
    have hop0 := H4.out.2.1.c0
    have HH := Lib.hid (And.intro hf2 (And.intro c0 c1))
    clear hf2 hkk hk h0 h1 hwr c0 c1 he h
    go_upto_region 9 with (fail)
    clear k1
    by_cases f4 : op = 20 ∨ op = 21 ∨ op = 22 ∨ op = 23 ∨ op = 24 ∨ op = 30
    · go_cut [49] from 50 to 62 (fun s9 wx => s9 = .bool true ∧ w4 = wx)
      case first =>
        rcases f4 with rfl | rfl | rfl | rfl | rfl | rfl
        all_goals
          go_wp2_with fail
          go_meet
          case rel => exact ⟨rfl, rfl⟩
      case rest =>
        obtain ⟨rfl, rfl⟩ := hcut
        have hf : Pl.formN op = 4 := by have := HH.out.1; omega
        go_wp2_with fail
        refine wp_region_held_drew (S := (fun w' => InsAt w' B op a b c imm nm)) (by kernel_rfl) (by exact H4.out.2.1.drew) (fun hHeld => ?_)
        refine wpAnyH_take (i := 0) (v := ?_) rfl (by kernel_rfl) (by kernel_rfl) (by kernel_rfl) (fun _ _ _ h => h) (Or.inl ⟨by kernel_rfl, ?_⟩) hHeld ?_
        rotate_left
        · (intro w' hSw; obtain ⟨hS0, hS1, hS2, hS3, hS4, hS5⟩ := hSw; go_simp; try with_reducible rfl)
        simp only [Act.put, List.setIfInBounds_toArray, List.set_cons_zero, List.set_cons_succ, List.getElem_toArray, List.getElem_cons_succ, List.getElem_cons_zero]
        refine wpAnyH_take (i := 1) (v := ?_) rfl (by kernel_rfl) (by kernel_rfl) (by kernel_rfl) (fun _ _ _ h => h) (Or.inl ⟨by kernel_rfl, ?_⟩) hHeld ?_
        rotate_left
        · (intro w' hSw; obtain ⟨hS0, hS1, hS2, hS3, hS4, hS5⟩ := hSw; go_simp; try with_reducible rfl)
        simp only [Act.put, List.setIfInBounds_toArray, List.set_cons_zero, List.set_cons_succ, List.getElem_toArray, List.getElem_cons_succ, List.getElem_cons_zero]
        refine wpAnyH_take (i := 2) (v := ?_) rfl (by kernel_rfl) (by kernel_rfl) (by kernel_rfl) (fun _ _ _ h => h) (Or.inl ⟨by kernel_rfl, ?_⟩) hHeld ?_
        rotate_left
        · (intro w' hSw; obtain ⟨hS0, hS1, hS2, hS3, hS4, hS5⟩ := hSw; go_simp; try with_reducible rfl)
        simp only [Act.put, List.setIfInBounds_toArray, List.set_cons_zero, List.set_cons_succ, List.getElem_toArray, List.getElem_cons_succ, List.getElem_cons_zero]
        refine wpAnyH_take (i := 3) (v := ?_) rfl (by kernel_rfl) (by kernel_rfl) (by kernel_rfl) (fun _ _ _ h => h) (Or.inl ⟨by kernel_rfl, ?_⟩) hHeld ?_
        rotate_left
        · (intro w' hSw; obtain ⟨hS0, hS1, hS2, hS3, hS4, hS5⟩ := hSw; go_simp; try with_reducible rfl)
        simp only [Act.put, List.setIfInBounds_toArray, List.set_cons_zero, List.set_cons_succ, List.getElem_toArray, List.getElem_cons_succ, List.getElem_cons_zero]
        refine wpAnyH_take (i := 5) (v := ?_) rfl (by kernel_rfl) (by kernel_rfl) (by kernel_rfl) (fun _ _ _ h => h) (Or.inl ⟨by kernel_rfl, ?_⟩) hHeld ?_
        rotate_left
        · (intro w' hSw; obtain ⟨hS0, hS1, hS2, hS3, hS4, hS5⟩ := hSw; go_simp; try with_reducible rfl)
        simp only [Act.put, List.setIfInBounds_toArray, List.set_cons_zero, List.set_cons_succ, List.getElem_toArray, List.getElem_cons_succ, List.getElem_cons_zero]
        refine wpAnyH_take (i := 6) (v := ?_) rfl (by kernel_rfl) (by kernel_rfl) (by kernel_rfl) (fun _ _ _ h => h) (Or.inl ⟨by kernel_rfl, ?_⟩) hHeld ?_
        rotate_left
        · (intro w' hSw; obtain ⟨hS0, hS1, hS2, hS3, hS4, hS5⟩ := hSw; go_simp; try with_reducible rfl)
        simp only [Act.put, List.setIfInBounds_toArray, List.set_cons_zero, List.set_cons_succ, List.getElem_toArray, List.getElem_cons_succ, List.getElem_cons_zero]
        refine wpAnyH_take (i := 7) (v := ?_) rfl (by kernel_rfl) (by kernel_rfl) (by kernel_rfl) (fun _ _ _ h => h) (Or.inl ⟨by kernel_rfl, ?_⟩) hHeld ?_
        rotate_left
        · (intro w' hSw; obtain ⟨hS0, hS1, hS2, hS3, hS4, hS5⟩ := hSw; go_simp; try with_reducible rfl)
        simp only [Act.put, List.setIfInBounds_toArray, List.set_cons_zero, List.set_cons_succ, List.getElem_toArray, List.getElem_cons_succ, List.getElem_cons_zero]
        refine wpAnyH_take (i := 8) (v := ?_) rfl (by kernel_rfl) (by kernel_rfl) (by kernel_rfl) (fun _ _ _ h => h) (Or.inl ⟨by kernel_rfl, ?_⟩) hHeld ?_
        rotate_left
        · (intro w' hSw; obtain ⟨hS0, hS1, hS2, hS3, hS4, hS5⟩ := hSw; go_simp; try with_reducible rfl)
        simp only [Act.put, List.setIfInBounds_toArray, List.set_cons_zero, List.set_cons_succ, List.getElem_toArray, List.getElem_cons_succ, List.getElem_cons_zero]
        refine wpAnyH_take (i := 9) (v := ?_) rfl (by kernel_rfl) (by kernel_rfl) (by kernel_rfl) (fun _ _ _ h => h) (Or.inl ⟨by kernel_rfl, ?_⟩) hHeld ?_
        rotate_left
        · (intro w' hSw; obtain ⟨hS0, hS1, hS2, hS3, hS4, hS5⟩ := hSw; go_simp; try with_reducible rfl)
        simp only [Act.put, List.setIfInBounds_toArray, List.set_cons_zero, List.set_cons_succ, List.getElem_toArray, List.getElem_cons_succ, List.getElem_cons_zero]
        refine wpAnyH_ready (rs := [4]) (by kernel_rfl) (by simp) (AllReadyH.cons rfl (fun K hK => ?_) AllReadyH.nil)
        go_simp
        refine (HQ.out.1 _).mono ?_
        rintro y w5 ⟨rfl, rfl⟩
        refine hK.out _ _ (by exact H4.out.2.1.drew) (fun hHeld => ?_)
        clear hK K
        (try simp only [Act.put, List.setIfInBounds_toArray, List.set_cons_zero, List.set_cons_succ, List.getElem_toArray, List.getElem_cons_succ, List.getElem_cons_zero])
        refine wpAnyH_ready (rs := [10]) (by kernel_rfl) (by simp) (AllReadyH.cons rfl (fun K hK => ?_) AllReadyH.nil)
        go_simp
        refine (HQ.out.2.1 _).mono ?_
        rintro y w5 ⟨rfl, rfl⟩
        refine hK.out _ _ (by exact H4.out.2.1.drew) (fun hHeld => ?_)
        clear hK K
        (try simp only [Act.put, List.setIfInBounds_toArray, List.set_cons_zero, List.set_cons_succ, List.getElem_toArray, List.getElem_cons_succ, List.getElem_cons_zero])
        refine wpAnyH_take (i := 11) (v := ?_) rfl (by kernel_rfl) (by kernel_rfl) (by kernel_rfl) (fun _ _ _ h => h) (Or.inl ⟨by kernel_rfl, ?_⟩) hHeld ?_
        rotate_left
        · (intro w' hSw; obtain ⟨hS0, hS1, hS2, hS3, hS4, hS5⟩ := hSw; go_simp; try with_reducible rfl)
        simp only [Act.put, List.setIfInBounds_toArray, List.set_cons_zero, List.set_cons_succ, List.getElem_toArray, List.getElem_cons_succ, List.getElem_cons_zero]
        refine wpAnyH_take (i := 12) (v := ?_) rfl (by kernel_rfl) (by kernel_rfl) (by kernel_rfl) (fun _ _ _ h => h) (Or.inl ⟨by kernel_rfl, ?_⟩) hHeld ?_
        rotate_left
        · (intro w' hSw; obtain ⟨hS0, hS1, hS2, hS3, hS4, hS5⟩ := hSw; go_simp; try with_reducible rfl)
        simp only [Act.put, List.setIfInBounds_toArray, List.set_cons_zero, List.set_cons_succ, List.getElem_toArray, List.getElem_cons_succ, List.getElem_cons_zero]
        refine wpAnyH_ready (rs := [13]) (by kernel_rfl) (by simp) (AllReadyH.cons rfl (fun K hK => ?_) AllReadyH.nil)
        go_simp
        obtain ⟨w5, hw5⟩ : ∃ V, w4.alloc (.cells #[.string ⟨(ta).toArray⟩, .string ⟨(it ++ 40 :: (tb ++ [41])).toArray⟩] 9) = V := ⟨_, rfl⟩
        obtain ⟨D, hD⟩ : ∃ D, w4.heap.size = D := ⟨_, rfl⟩
        have hz5 : w5.heap[D]? = some (.cells #[.string ⟨(ta).toArray⟩, .string ⟨(it ++ 40 :: (tb ++ [41])).toArray⟩] 9 (0, 0)) := by rw [← hw5, ← hD]; exact heap_alloc_new _ _
        have hb5 : Below w4.heap.size w4 w5 := by rw [← hw5]; exact (Below.refl _ _).alloc (Nat.le_refl _) _
        rw [hw5, hD]
        clear hw5
        have hS5 := H4.out.2.1.keep hb5 H4.out.2.2.2.2 H4.out.2.2.2.1
        have hln := line_any nm D 2 [ta, it ++ 40 :: (tb ++ [41])] w5.drew hnl (rows_str (w := w5.drew) [ta, it ++ 40 :: (tb ++ [41])] hz5) (blk_lt hz5) (by simp) (by simp) (by simp) (Nat.le_trans (join_len2 _ _ (by omega) (by simp; omega)) (by decide))
        have HL := Lib.hid hln
        have H5 := Lib.hid (And.intro hb5 hS5)
        clear hln hb5 hz5 hS5
        refine hK.out _ _ (by exact H5.out.2.drew) (fun hHeld => ?_)
        clear hK K
        (try simp only [Act.put, List.setIfInBounds_toArray, List.set_cons_zero, List.set_cons_succ, List.getElem_toArray, List.getElem_cons_succ, List.getElem_cons_zero])
        refine wpAnyH_ready (rs := [14]) (by kernel_rfl) (by simp) (AllReadyH.cons rfl (fun K hK => ?_) AllReadyH.nil)
        go_simp
        refine HL.out.mono ?_
        rintro y w6 ⟨v, rfl, rfl, hb6⟩
        have hb56 : Below w4.heap.size w4 w6 := H5.out.1.trans ((((Below.refl w5.heap.size w5).drew).trans hb6).mono H5.out.1.size)
        have hS6 := H4.out.2.1.keep hb56 H4.out.2.2.2.2 H4.out.2.2.2.1
        refine hK.out _ _ hS6 (fun hHeld => ?_)
        clear hK K
        (try simp only [Act.put, List.setIfInBounds_toArray, List.set_cons_zero, List.set_cons_succ, List.getElem_toArray, List.getElem_cons_succ, List.getElem_cons_zero])
        refine wpAnyH_take (i := 15) (v := ?_) rfl (by kernel_rfl) (by kernel_rfl) (by kernel_rfl) (fun _ _ _ h => h) (Or.inl ⟨by kernel_rfl, ?_⟩) hHeld ?_
        rotate_left
        · (intro w' hSw; (try dsimp only at hSw); go_simp; try with_reducible rfl)
        simp only [Act.put, List.setIfInBounds_toArray, List.set_cons_zero, List.set_cons_succ, List.getElem_toArray, List.getElem_cons_succ, List.getElem_cons_zero]
        refine wpAnyH_done (by kernel_rfl) ?_ _
        go_wp2_with fail
        go_ret
        refine ⟨_, rfl, ?_, H4.out.2.2.1.trans (hb56.mono H4.out.2.2.1.size)⟩
        rw [HT.out.1, HQ.out.2.2.2]
        simp only [hf]
        rfl
    · go_cut [49] from 50 to 62 (fun s9 wx => s9 = .bool false ∧ w4 = wx)
      case first =>
        have hc : op < 20 ∨ (24 < op ∧ op < 30) ∨ op = 31 := by have := HH.out.1; omega
        rcases hc with ho2 | ho2 | rfl
        · have h20 : ¬ (20 : Int) ≤ (op : Int) := by omega
          have h30 : ((op : Int) == 30) = false := by rw [beq_eq_false_iff_ne]; omega
          go_wp2_with fail
          go_meet
          case rel => exact ⟨rfl, rfl⟩
        · have h20 : (20 : Int) ≤ (op : Int) := by omega
          have h24 : ¬ (op : Int) ≤ 24 := by omega
          have h30 : ((op : Int) == 30) = false := by rw [beq_eq_false_iff_ne]; omega
          go_wp2_with fail
          go_meet
          case rel => exact ⟨rfl, rfl⟩
        · go_wp2_with fail
          go_meet
          case rel => exact ⟨rfl, rfl⟩
      case rest =>
        obtain ⟨rfl, rfl⟩ := hcut
        have hf3 : (k = 4 ∧ Pl.formN op = 2) ∨ (k = 2 ∧ Pl.formN op = 3) ∨ (k = 3 ∧ Pl.formN op = 5) := by have := HH.out.1; omega
        obtain ⟨-, c0, c1⟩ := HH.out
        rcases hf3 with ⟨rfl, hf⟩ | ⟨rfl, hf⟩ | ⟨rfl, hf⟩
        · have c1 : w4.cell? ⟨C, 1, none⟩ = some (.bool true) := c1
          go_wp2_with fail
          refine wp_region_held_drew (S := (fun w' => InsAt w' B op a b c imm nm)) (by kernel_rfl) (by exact H4.out.2.1.drew) (fun hHeld => ?_)
          refine wpAnyH_take (i := 0) (v := ?_) rfl (by kernel_rfl) (by kernel_rfl) (by kernel_rfl) (fun _ _ _ h => h) (Or.inl ⟨by kernel_rfl, ?_⟩) hHeld ?_
          rotate_left
          · (intro w' hSw; obtain ⟨hS0, hS1, hS2, hS3, hS4, hS5⟩ := hSw; go_simp; try with_reducible rfl)
          simp only [Act.put, List.setIfInBounds_toArray, List.set_cons_zero, List.set_cons_succ, List.getElem_toArray, List.getElem_cons_succ, List.getElem_cons_zero]
          refine wpAnyH_take (i := 1) (v := ?_) rfl (by kernel_rfl) (by kernel_rfl) (by kernel_rfl) (fun _ _ _ h => h) (Or.inl ⟨by kernel_rfl, ?_⟩) hHeld ?_
          rotate_left
          · (intro w' hSw; obtain ⟨hS0, hS1, hS2, hS3, hS4, hS5⟩ := hSw; go_simp; try with_reducible rfl)
          simp only [Act.put, List.setIfInBounds_toArray, List.set_cons_zero, List.set_cons_succ, List.getElem_toArray, List.getElem_cons_succ, List.getElem_cons_zero]
          refine wpAnyH_take (i := 2) (v := ?_) rfl (by kernel_rfl) (by kernel_rfl) (by kernel_rfl) (fun _ _ _ h => h) (Or.inl ⟨by kernel_rfl, ?_⟩) hHeld ?_
          rotate_left
          · (intro w' hSw; obtain ⟨hS0, hS1, hS2, hS3, hS4, hS5⟩ := hSw; go_simp; try with_reducible rfl)
          simp only [Act.put, List.setIfInBounds_toArray, List.set_cons_zero, List.set_cons_succ, List.getElem_toArray, List.getElem_cons_succ, List.getElem_cons_zero]
          refine wpAnyH_take (i := 3) (v := ?_) rfl (by kernel_rfl) (by kernel_rfl) (by kernel_rfl) (fun _ _ _ h => h) (Or.inl ⟨by kernel_rfl, ?_⟩) hHeld ?_
          rotate_left
          · (intro w' hSw; obtain ⟨hS0, hS1, hS2, hS3, hS4, hS5⟩ := hSw; go_simp; try with_reducible rfl)
          simp only [Act.put, List.setIfInBounds_toArray, List.set_cons_zero, List.set_cons_succ, List.getElem_toArray, List.getElem_cons_succ, List.getElem_cons_zero]
          refine wpAnyH_take (i := 5) (v := ?_) rfl (by kernel_rfl) (by kernel_rfl) (by kernel_rfl) (fun _ _ _ h => h) (Or.inl ⟨by kernel_rfl, ?_⟩) hHeld ?_
          rotate_left
          · (intro w' hSw; obtain ⟨hS0, hS1, hS2, hS3, hS4, hS5⟩ := hSw; go_simp; try with_reducible rfl)
          simp only [Act.put, List.setIfInBounds_toArray, List.set_cons_zero, List.set_cons_succ, List.getElem_toArray, List.getElem_cons_succ, List.getElem_cons_zero]
          refine wpAnyH_take (i := 6) (v := ?_) rfl (by kernel_rfl) (by kernel_rfl) (by kernel_rfl) (fun _ _ _ h => h) (Or.inl ⟨by kernel_rfl, ?_⟩) hHeld ?_
          rotate_left
          · (intro w' hSw; obtain ⟨hS0, hS1, hS2, hS3, hS4, hS5⟩ := hSw; go_simp; try with_reducible rfl)
          simp only [Act.put, List.setIfInBounds_toArray, List.set_cons_zero, List.set_cons_succ, List.getElem_toArray, List.getElem_cons_succ, List.getElem_cons_zero]
          refine wpAnyH_take (i := 7) (v := ?_) rfl (by kernel_rfl) (by kernel_rfl) (by kernel_rfl) (fun _ _ _ h => h) (Or.inl ⟨by kernel_rfl, ?_⟩) hHeld ?_
          rotate_left
          · (intro w' hSw; obtain ⟨hS0, hS1, hS2, hS3, hS4, hS5⟩ := hSw; go_simp; try with_reducible rfl)
          simp only [Act.put, List.setIfInBounds_toArray, List.set_cons_zero, List.set_cons_succ, List.getElem_toArray, List.getElem_cons_succ, List.getElem_cons_zero]
          refine wpAnyH_take (i := 9) (v := ?_) rfl (by kernel_rfl) (by kernel_rfl) (by kernel_rfl) (fun _ _ _ h => h) (Or.inl ⟨by kernel_rfl, ?_⟩) hHeld ?_
          rotate_left
          · (intro w' hSw; obtain ⟨hS0, hS1, hS2, hS3, hS4, hS5⟩ := hSw; go_simp; try with_reducible rfl)
          simp only [Act.put, List.setIfInBounds_toArray, List.set_cons_zero, List.set_cons_succ, List.getElem_toArray, List.getElem_cons_succ, List.getElem_cons_zero]
          refine wpAnyH_ready (rs := [4]) (by kernel_rfl) (by simp) (AllReadyH.cons rfl (fun K hK => ?_) AllReadyH.nil)
          go_simp
          refine (HQ.out.1 _).mono ?_
          rintro y w5 ⟨rfl, rfl⟩
          refine hK.out _ _ (by exact H4.out.2.1.drew) (fun hHeld => ?_)
          clear hK K
          (try simp only [Act.put, List.setIfInBounds_toArray, List.set_cons_zero, List.set_cons_succ, List.getElem_toArray, List.getElem_cons_succ, List.getElem_cons_zero])
          refine wpAnyH_ready (rs := [8]) (by kernel_rfl) (by simp) (AllReadyH.cons rfl (fun K hK => ?_) AllReadyH.nil)
          go_simp
          refine (HQ.out.2.1 _).mono ?_
          rintro y w5 ⟨rfl, rfl⟩
          refine hK.out _ _ (by exact H4.out.2.1.drew) (fun hHeld => ?_)
          clear hK K
          (try simp only [Act.put, List.setIfInBounds_toArray, List.set_cons_zero, List.set_cons_succ, List.getElem_toArray, List.getElem_cons_succ, List.getElem_cons_zero])
          refine wpAnyH_ready (rs := [10]) (by kernel_rfl) (by simp) (AllReadyH.cons rfl (fun K hK => ?_) AllReadyH.nil)
          go_simp
          obtain ⟨w5, hw5⟩ : ∃ V, w4.alloc (.cells #[.string ⟨(ta).toArray⟩, .string ⟨(tb).toArray⟩, .string ⟨(it).toArray⟩] 9) = V := ⟨_, rfl⟩
          obtain ⟨D, hD⟩ : ∃ D, w4.heap.size = D := ⟨_, rfl⟩
          have hz5 : w5.heap[D]? = some (.cells #[.string ⟨(ta).toArray⟩, .string ⟨(tb).toArray⟩, .string ⟨(it).toArray⟩] 9 (0, 0)) := by rw [← hw5, ← hD]; exact heap_alloc_new _ _
          have hb5 : Below w4.heap.size w4 w5 := by rw [← hw5]; exact (Below.refl _ _).alloc (Nat.le_refl _) _
          rw [hw5, hD]
          clear hw5
          have hS5 := H4.out.2.1.keep hb5 H4.out.2.2.2.2 H4.out.2.2.2.1
          have hln := line_any nm D 3 [ta, tb, it] w5.drew hnl (rows_str (w := w5.drew) [ta, tb, it] hz5) (blk_lt hz5) (by simp) (by simp) (by simp) (Nat.le_trans (join_len3 _ _ _ (by omega) (by omega) (by omega)) (by decide))
          have HL := Lib.hid hln
          have H5 := Lib.hid (And.intro hb5 hS5)
          clear hln hb5 hz5 hS5
          refine hK.out _ _ (by exact H5.out.2.drew) (fun hHeld => ?_)
          clear hK K
          (try simp only [Act.put, List.setIfInBounds_toArray, List.set_cons_zero, List.set_cons_succ, List.getElem_toArray, List.getElem_cons_succ, List.getElem_cons_zero])
          refine wpAnyH_ready (rs := [11]) (by kernel_rfl) (by simp) (AllReadyH.cons rfl (fun K hK => ?_) AllReadyH.nil)
          go_simp
          refine HL.out.mono ?_
          rintro y w6 ⟨v, rfl, rfl, hb6⟩
          have hb56 : Below w4.heap.size w4 w6 := H5.out.1.trans ((((Below.refl w5.heap.size w5).drew).trans hb6).mono H5.out.1.size)
          have hS6 := H4.out.2.1.keep hb56 H4.out.2.2.2.2 H4.out.2.2.2.1
          refine hK.out _ _ hS6 (fun hHeld => ?_)
          clear hK K
          (try simp only [Act.put, List.setIfInBounds_toArray, List.set_cons_zero, List.set_cons_succ, List.getElem_toArray, List.getElem_cons_succ, List.getElem_cons_zero])
          refine wpAnyH_take (i := 12) (v := ?_) rfl (by kernel_rfl) (by kernel_rfl) (by kernel_rfl) (fun _ _ _ h => h) (Or.inl ⟨by kernel_rfl, ?_⟩) hHeld ?_
          rotate_left
          · (intro w' hSw; (try dsimp only at hSw); go_simp; try with_reducible rfl)
          simp only [Act.put, List.setIfInBounds_toArray, List.set_cons_zero, List.set_cons_succ, List.getElem_toArray, List.getElem_cons_succ, List.getElem_cons_zero]
          refine wpAnyH_done (by kernel_rfl) ?_ _
          go_wp2_with fail
          go_ret
          refine ⟨_, rfl, ?_, H4.out.2.2.1.trans (hb56.mono H4.out.2.2.1.size)⟩
          rw [HT.out.1, HQ.out.2.2.2]
          simp only [hf]
          rfl
        · have c1 : w4.cell? ⟨C, 1, none⟩ = some (.bool false) := c1
          have c0 : w4.cell? ⟨C, 0, none⟩ = some (.bool true) := c0
          have ha1 := H4.out.2.1.c1
          go_wp2_with fail
          refine (HQ.out.1 _).mono ?_
          rintro y w5 ⟨rfl, rfl⟩
          go_wp2_with fail
          obtain ⟨w5, hw5⟩ : ∃ V, w4.alloc (.cells #[.string ⟨ta.toArray⟩, .string ⟨it.toArray⟩] 9) = V := ⟨_, rfl⟩
          obtain ⟨D, hD⟩ : ∃ D, w4.heap.size = D := ⟨_, rfl⟩
          have hz5 : w5.heap[D]? = some (.cells #[.string ⟨ta.toArray⟩, .string ⟨it.toArray⟩] 9 (0, 0)) := by rw [← hw5, ← hD]; exact heap_alloc_new _ _
          have hb5 : Below w4.heap.size w4 w5 := by rw [← hw5]; exact (Below.refl _ _).alloc (Nat.le_refl _) _
          rw [hw5, hD]
          clear hw5
          have hln := line_any nm D 2 [ta, it] w5 hnl (rows_str (w := w5) [ta, it] hz5) (blk_lt hz5) (by simp) (by simp) (by simp) (Nat.le_trans (join_len2 _ _ (by omega) (by omega)) (by decide))
          have HL := Lib.hid hln
          have H5 := Lib.hid hb5
          clear hln hb5 hz5
          refine HL.out.mono ?_
          rintro y w6 ⟨v, rfl, rfl, hb6⟩
          have hb56 : Below w4.heap.size w4 w6 := H5.out.trans (hb6.mono H5.out.size)
          go_wp2_with fail
          go_ret
          refine ⟨_, rfl, ?_, H4.out.2.2.1.trans (hb56.mono H4.out.2.2.1.size)⟩
          rw [HT.out.1, HQ.out.2.2.2]
          simp only [hf]
          rfl
        · have c1 : w4.cell? ⟨C, 1, none⟩ = some (.bool false) := c1
          have c0 : w4.cell? ⟨C, 0, none⟩ = some (.bool false) := c0
          go_wp2_with fail
          obtain ⟨w5, hw5⟩ : ∃ V, w4.alloc (.cells #[.string ⟨it.toArray⟩] 9) = V := ⟨_, rfl⟩
          obtain ⟨D, hD⟩ : ∃ D, w4.heap.size = D := ⟨_, rfl⟩
          have hz5 : w5.heap[D]? = some (.cells #[.string ⟨it.toArray⟩] 9 (0, 0)) := by rw [← hw5, ← hD]; exact heap_alloc_new _ _
          have hb5 : Below w4.heap.size w4 w5 := by rw [← hw5]; exact (Below.refl _ _).alloc (Nat.le_refl _) _
          rw [hw5, hD]
          clear hw5
          have hln := line_one nm D 1 it w5 hnl (rows_str (w := w5) [it] hz5 0 it rfl) (blk_lt hz5) (by omega)
          have HL := Lib.hid hln
          have H5 := Lib.hid hb5
          clear hln hb5 hz5
          refine HL.out.mono ?_
          rintro y w6 ⟨v, rfl, rfl, hb6⟩
          have hb56 : Below w4.heap.size w4 w6 := H5.out.trans (hb6.mono H5.out.size)
          go_wp2_with fail
          go_ret
          refine ⟨_, rfl, ?_, H4.out.2.2.1.trans (hb56.mono H4.out.2.2.1.size)⟩
          rw [HT.out.1, HQ.out.2.2.2]
          have hj : Lib.join [it] [44, 32] = it := by simp [Lib.join, List.intercalate, List.intersperse]
          simp only [hf]
          show _ = Value.string ⟨(nm ++ 32 :: Lib.join [it] [44, 32]).toArray⟩
          rw [hj]
          rfl
end Go.Proofs.YtmmnkoeajdeldaaGreatDoor
