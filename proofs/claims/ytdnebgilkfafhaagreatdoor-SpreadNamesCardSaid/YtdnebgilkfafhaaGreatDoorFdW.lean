/- The walks of the field: a product. The walks of the field: distinct, At of three points. The walk of the field's At: the value of the polynomial through points. -/
import Derived.Test.YtdnebgilkfafhaaGreatDoorBase
import Derived.Test.YtdnebgilkfafhaaGreatDoorFdPl
import Derived.Deep.Cut
namespace Go.Proofs.YtdnebgilkfafhaaGreatDoor
open Go.RowKit
set_option linter.unusedVariables false
set_option linter.unusedSimpArgs false
attribute [local go_sem] ba_get ba_cut ba_add
theorem and_one_all : ((List.range 256).all fun m => bits BinOp.and IntKind.u8 (m : Int) 1 == ((m % 2 : Nat) : Int)) = true := by decide +kernel
theorem and_top_all : ((List.range 256).all fun m => (bits BinOp.and IntKind.u8 (m : Int) 128 != 0) == m.testBit 7) = true := by decide +kernel
theorem and_one (b k : Nat) (h : b < 2 ^ 8) : (bits BinOp.and IntKind.u8 ((b : Int) / 2 ^ k) 1 == 1) = b.testBit k := by
  have e : (b : Int) / 2 ^ k = ((b / 2 ^ k : Nat) : Int) := by simp
  have hl : b / 2 ^ k < 256 := Nat.lt_of_le_of_lt (Nat.div_le_self _ _) (by omega)
  have h2 := List.all_eq_true.1 and_one_all (b / 2 ^ k) (List.mem_range.2 hl)
  rw [e, eq_of_beq h2, Nat.testBit_eq_decide_div_mod_eq]
  have h3 : b / 2 ^ k % 2 = 0 ∨ b / 2 ^ k % 2 = 1 := by omega
  rcases h3 with h3 | h3 <;> rw [h3] <;> rfl
theorem and_top (y : Nat) (h : y < 2 ^ 8) : (bits BinOp.and IntKind.u8 (y : Int) 128 != 0) = y.testBit 7 :=
  eq_of_beq (List.all_eq_true.1 and_top_all y (List.mem_range.2 (by omega)))
theorem xt_val (y : UInt8) (c : Bool) (hc : y.toNat.testBit 7 = c) : (if c then bits BinOp.xor IntKind.u8 ((y.toNat : Int) * 2 % 256) 29 else (y.toNat : Int) * 2 % 256) = ((Pl.xt y).toNat : Int) := by
  have hs : (y <<< 1).toNat = y.toNat * 2 % 256 := by
    rw [UInt8.toNat_shiftLeft]
    show y.toNat <<< (1 % 8) % 256 = _
    rw [Nat.shiftLeft_eq]
  unfold Pl.xt
  rw [hc]
  cases c with
  | false =>
    simp only [Bool.false_eq_true, if_false]
    rw [hs]; omega
  | true =>
    simp only [if_true]
    have e : (y.toNat : Int) * 2 % 256 = ((y.toNat * 2 % 256 : Nat) : Int) := by omega
    rw [e, show (29 : Int) = ((29 : Nat) : Int) from rfl, Go.u8_xor_nat _ _ (by omega) (by decide), UInt8.toNat_xor, hs]
    rfl
set_option maxRecDepth 100000 in
set_option maxHeartbeats 1000000 in
theorem mul_any (a b : UInt8) (w : World) : Calls Tryz.prog 152 #[.int .u8 (a.toNat : Int), .int .u8 (b.toNat : Int)] w (Ret (.int .u8 ((Pl.mulB a b).toNat : Int)) w) := by
  obtain ⟨R, hR⟩ : ∃ R, Pl.mulB a b = R := ⟨_, rfl⟩
  rw [hR]
  have HR := Lib.hid hR
  clear hR
  go_enter Tryz.func152, Tryz.ntmps152
  go_wp2_with fail
  go_loopw [0, 5, 8] (fun x p i wr => ∃ (k : Nat) (y q : UInt8), k ≤ 8 ∧ i = .int .i64 (k : Int) ∧ x = .int .u8 (y.toNat : Int) ∧ p = .int .u8 (q.toNat : Int) ∧ wr = w ∧ Hid (Pl.mulF (8 - k) k y b q = R)) (fun _ _ i _ => 8 - (intOf i).toNat)
  case atStart => exact ⟨0, a, 0, by omega, rfl, rfl, rfl, rfl, Lib.hid HR.out⟩
  case round =>
    obtain ⟨k, y, q, hk, rfl, rfl, rfl, rfl, HK⟩ := hrel
    by_cases hk8 : k < 8
    · have hy := y.toNat_lt
      have hb := b.toNat_lt
      have hq := q.toNat_lt
      obtain ⟨yn, hyn⟩ : ∃ z, y.toNat = z := ⟨_, rfl⟩
      obtain ⟨bn, hbn⟩ : ∃ z, b.toNat = z := ⟨_, rfl⟩
      obtain ⟨qn, hqn⟩ : ∃ z, q.toNat = z := ⟨_, rfl⟩
      rw [hyn] at hy ⊢
      rw [hbn] at hb ⊢
      rw [hqn] at hq ⊢
      obtain ⟨c1, hc1⟩ : ∃ c, b.toNat.testBit k = c := ⟨_, rfl⟩
      obtain ⟨c2, hc2⟩ : ∃ c, y.toNat.testBit 7 = c := ⟨_, rfl⟩
      have e1 : (bits BinOp.and IntKind.u8 ((bn : Int) / 2 ^ k) 1 == 1) = c1 := by rw [← hc1, hbn]; exact and_one bn k hb
      have e2 : (bits BinOp.and IntKind.u8 (yn : Int) 128 != 0) = c2 := by rw [← hc2, hyn]; exact and_top yn hy
      have HX := Lib.hid (xt_val y c2 hc2)
      have HK2 : Hid (Pl.mulF (8 - (k + 1)) (k + 1) (Pl.xt y) b (q ^^^ (if c1 then y else 0)) = R) := by
        have h := HK.out
        rw [show 8 - k = 8 - (k + 1) + 1 by omega, Pl.mulF] at h
        unfold Pl.pick at h
        rw [hc1] at h
        exact Lib.hid h
      have hxq : bits BinOp.xor IntKind.u8 (qn : Int) (yn : Int) = ((q ^^^ y).toNat : Int) := by rw [Go.u8_xor_nat _ _ hq hy, UInt8.toNat_xor, hqn, hyn]
      rw [hyn] at HX
      have HQ := Lib.hid (And.intro hyn hqn)
      clear hc1 hc2 HK hbn hyn hqn
      cases c1 <;> cases c2 <;> simp only [Bool.false_eq_true, if_false, if_true] at HX HK2
      all_goals
        go_wp2_with fail
      · exact ⟨⟨k + 1, Pl.xt y, q ^^^ 0, by omega, ret_i (by omega), by rw [HX.out], by rw [UInt8.xor_zero, HQ.out.2], trivial, HK2⟩, by simp only [intOf]; omega⟩
      · exact ⟨⟨k + 1, Pl.xt y, q ^^^ 0, by omega, ret_i (by omega), by rw [HX.out], by rw [UInt8.xor_zero, HQ.out.2], trivial, HK2⟩, by simp only [intOf]; omega⟩
      · exact ⟨⟨k + 1, Pl.xt y, q ^^^ y, by omega, ret_i (by omega), by rw [HX.out], by rw [UInt8.toNat_xor], trivial, HK2⟩, by simp only [intOf]; omega⟩
      · exact ⟨⟨k + 1, Pl.xt y, q ^^^ y, by omega, ret_i (by omega), by rw [HX.out], by rw [UInt8.toNat_xor], trivial, HK2⟩, by simp only [intOf]; omega⟩
    · have HN : Hid (q = R) := by
        have h := HK.out
        obtain rfl : k = 8 := by omega
        exact Lib.hid h
      clear HK
      go_wp2_with fail
      go_ret
      rw [HN.out]
      exact ⟨rfl, rfl⟩
set_option maxRecDepth 100000 in
set_option maxHeartbeats 1000000 in
theorem inv_any (a : UInt8) (w : World) : Calls Tryz.prog 174 #[.int .u8 (a.toNat : Int)] w (Ret (.int .u8 ((Pl.invB a).toNat : Int)) w) := by
  obtain ⟨R, hR⟩ : ∃ R, Pl.invB a = R := ⟨_, rfl⟩
  rw [hR]
  have HR := Lib.hid hR
  have HM := Lib.hid (fun x y W => mul_any x y W)
  clear hR
  go_enter Tryz.func174, Tryz.ntmps174
  go_wp2_with fail
  go_loopw [0, 3, 4] (fun x p i wr => ∃ (k : Nat) (y q : UInt8), k ≤ 7 ∧ i = .int .i64 (k : Int) ∧ x = .int .u8 (y.toNat : Int) ∧ p = .int .u8 (q.toNat : Int) ∧ wr = w ∧ Hid (Pl.invF (7 - k) y q = R)) (fun _ _ i _ => 7 - (intOf i).toNat)
  case atStart => exact ⟨0, a, 1, by omega, rfl, rfl, rfl, rfl, Lib.hid HR.out⟩
  case round =>
    obtain ⟨k, y, q, hk, rfl, rfl, rfl, rfl, HK⟩ := hrel
    by_cases hk7 : k < 7
    · have HK2 : Hid (Pl.invF (7 - (k + 1)) (Pl.mulB y y) (Pl.mulB q (Pl.mulB y y)) = R) := by
        have h := HK.out
        rw [show 7 - k = 7 - (k + 1) + 1 by omega, Pl.invF] at h
        exact Lib.hid h
      clear HK
      go_wp2_with fail
      (with_reducible refine (HM.out y y _).mono ?_)
      rintro z w2 ⟨rfl, rfl⟩
      go_wp2_with fail
      (with_reducible refine (HM.out q (Pl.mulB y y) _).mono ?_)
      rintro z w2 ⟨rfl, rfl⟩
      go_wp2_with fail
      exact ⟨⟨k + 1, Pl.mulB y y, Pl.mulB q (Pl.mulB y y), by omega, ret_i (by omega), rfl, rfl, trivial, HK2⟩, by simp only [intOf]; omega⟩
    · have HN : Hid (q = R) := by
        have h := HK.out
        obtain rfl : k = 7 := by omega
        exact Lib.hid h
      clear HK
      go_wp2_with fail
      go_ret
      rw [HN.out]
      exact ⟨rfl, rfl⟩
end Go.Proofs.YtdnebgilkfafhaaGreatDoor
namespace Go.Proofs.YtdnebgilkfafhaaGreatDoor
open Go.RowKit
set_option linter.unusedVariables false
set_option linter.unusedSimpArgs false
attribute [local go_sem] ba_get ba_cut ba_add
/-- Bytes as cells. -/
def b8s (l : List UInt8) : List Value := l.map fun c => .int .u8 (c.toNat : Int)
theorem b8s_len (l : List UInt8) : (b8s l).length = l.length := by simp [b8s]
theorem b8s_get (l : List UInt8) (i : Nat) (h : i < l.length) : (b8s l)[i]? = some (.int .u8 (l[i].toNat : Int)) := by simp [b8s, h]
/-- The field's elements that were met. -/
def metC (l : List UInt8) : List Value := l.foldl (fun C x => C.set x.toNat (.bool true)) (List.replicate 256 (.bool false))
theorem metC_len (l : List UInt8) : (metC l).length = 256 := by
  have : ∀ (r : List UInt8) (C : List Value), C.length = 256 → (r.foldl (fun C x => C.set x.toNat (.bool true)) C).length = 256 := by
    intro r
    induction r with
    | nil => intro C h; exact h
    | cons x r ih => intro C h; exact ih _ (by rw [List.length_set]; exact h)
  exact this l _ List.length_replicate
theorem metC_snoc (l : List UInt8) (x : UInt8) : metC (l ++ [x]) = (metC l).set x.toNat (.bool true) := by unfold metC; rw [List.foldl_append]; rfl
theorem metC_not (l : List UInt8) (x : UInt8) (h : x ∉ l) : (metC l)[x.toNat]? = some (.bool false) := by
  have : ∀ (r : List UInt8) (C : List Value), x ∉ r → C[x.toNat]? = some (.bool false) → (r.foldl (fun C y => C.set y.toNat (.bool true)) C)[x.toNat]? = some (.bool false) := by
    intro r
    induction r with
    | nil => intro C _ h; exact h
    | cons y r ih =>
      intro C hx h
      refine ih _ (fun g => hx (List.mem_cons_of_mem _ g)) ?_
      rw [List.getElem?_set_ne (fun e => hx (by rw [UInt8.toNat.inj e]; exact List.mem_cons_self ..))]
      exact h
  exact this l _ h (by rw [List.getElem?_replicate, if_pos x.toNat_lt])
set_option maxRecDepth 100000 in
set_option maxHeartbeats 2000000 in
theorem distinct_any (A : Option Addr) (c : Nat) (l : List UInt8) (w : World) (hr : Rd w 1 A l.length (b8s l)) (hl : l.length ≤ 256) (hd : l.Nodup) : Calls Tryz.prog 173 #[.slice A l.length c] w (RetB (fun v _ => v = .bool true) w) := by
  have HL := Lib.hid (And.intro hr hd)
  clear hr hd
  obtain ⟨n, hn⟩ : ∃ n, l.length = n := ⟨_, rfl⟩
  rw [hn] at hl HL ⊢
  obtain ⟨B, hB⟩ : ∃ B, w.heap.size = B := ⟨_, rfl⟩
  go_enter Tryz.func173, Tryz.ntmps173
  go_upto_region 2 with (fail)
  generalize hW : World.alloc w _ = W
  have hz : W.heap[B]? = some (.cells (metC []).toArray 254 (0, 0)) := by rw [← hW, ← hB]; exact heap_alloc_new _ _
  have hb : Below B w W := by rw [← hW, ← hB]; exact (Below.refl _ _).alloc (Nat.le_refl _) _
  have HW := Lib.hid (And.intro hz hb)
  clear hW hz hb
  go_wp2_with fail
  go_loopw [8] (fun i wr => ∃ (k : Nat), k ≤ n ∧ i = .int .i64 (k : Int) ∧ Hid (wr.heap[B]? = some (.cells (metC (l.take k)).toArray 254 (0, 0)) ∧ Below B w wr)) (fun i _ => n - (intOf i).toNat)
  case atStart => exact ⟨0, by omega, rfl, HW⟩
  case round =>
    obtain ⟨k, hk, rfl, HK⟩ := hrel
    by_cases hkn : k < n
    · have hkl : k < l.length := by omega
      obtain ⟨b, off, rfl, hbl, hc⟩ := (HL.out.1.below (by rw [hB]; exact HK.out.2)).at1 hkn
      rw [b8s_get l k hkl] at hc
      have hnk : l[k] ∉ l.take k := by
        intro h
        have h2 := HL.out.2
        rw [← List.take_append_drop k l] at h2
        have h3 := (List.nodup_append.1 h2).2.2 l[k] h l[k] (by rw [List.drop_eq_getElem_cons hkl]; exact List.mem_cons_self ..)
        exact h3 rfl
      have hm := metC_not _ _ hnk
      have hsn := metC_snoc (l.take k) l[k]
      rw [← List.take_succ_eq_append_getElem hkl] at hsn
      obtain ⟨x, hx⟩ : ∃ x, l[k] = x := ⟨_, rfl⟩
      rw [hx] at hc hm hsn
      have hxl := x.toNat_lt
      obtain ⟨xn, hxn⟩ : ∃ z, x.toNat = z := ⟨_, rfl⟩
      rw [hxn] at hc hm hsn hxl
      have hcell : wr.cell? ⟨B, xn, none⟩ = some (.bool false) := by
        rw [cell_row wr B xn _ _ HK.out.1]
        simpa using hm
      have hf := frozen_of wr B xn _ _ HK.out.1
      have HS := Lib.hid hsn
      clear hx hm hsn hnk hxn
      go_wp2_with fail
      refine ⟨⟨k + 1, by omega, ret_i (by omega), Lib.hid ⟨?_, ?_⟩⟩, by simp only [intOf]; omega⟩
      · rw [set_at wr B xn _ _ _ HK.out.1, HS.out]
        simp
      · exact HK.out.2.setCell (p := ⟨B, xn, none⟩) (by show B ≤ B; omega) _
    · have hb := HK.out.2
      clear HK
      go_wp2_with fail
      go_ret
      exact ⟨_, rfl, rfl, by rw [hB]; exact hb⟩
end Go.Proofs.YtdnebgilkfafhaaGreatDoor
namespace Go.Proofs.YtdnebgilkfafhaaGreatDoor.Pl
def abL (xs : List UInt8) (x y : UInt8) (i j : Nat) : UInt8 := (List.range j).foldl (fun a t => if t = i then a else mulB a (x ^^^ xs.getD t 0)) y
def beL (xs : List UInt8) (i j : Nat) : UInt8 := (List.range j).foldl (fun a t => if t = i then a else mulB a (xs.getD i 0 ^^^ xs.getD t 0)) 1
def atF (xs ys : List UInt8) (x : UInt8) (k : Nat) : UInt8 := (List.range k).foldl (fun v i => v ^^^ mulB (abL xs x (ys.getD i 0) i xs.length) (invB (beL xs i xs.length))) 0
def atL (xs ys : List UInt8) (x : UInt8) : UInt8 := atF xs ys x xs.length
theorem abL_succ (xs : List UInt8) (x y : UInt8) (i j : Nat) : abL xs x y i (j + 1) = if j = i then abL xs x y i j else mulB (abL xs x y i j) (x ^^^ xs.getD j 0) := by
  unfold abL; rw [List.range_succ, List.foldl_append]; rfl
theorem beL_succ (xs : List UInt8) (i j : Nat) : beL xs i (j + 1) = if j = i then beL xs i j else mulB (beL xs i j) (xs.getD i 0 ^^^ xs.getD j 0) := by
  unfold beL; rw [List.range_succ, List.foldl_append]; rfl
theorem atF_succ (xs ys : List UInt8) (x : UInt8) (k : Nat) : atF xs ys x (k + 1) = atF xs ys x k ^^^ mulB (abL xs x (ys.getD k 0) k xs.length) (invB (beL xs k xs.length)) := by
  unfold atF; rw [List.range_succ, List.foldl_append]; rfl
/-- At three points it is the polynomial's value. -/
theorem atL_three (x0 x1 x2 y0 y1 y2 x : UInt8) : atL [x0, x1, x2] [y0, y1, y2] x = atB x0 x1 x2 y0 y1 y2 x := by
  have z : ∀ a : UInt8, 0 ^^^ a = a := fun a => by simp
  show (((0 : UInt8) ^^^ _) ^^^ _) ^^^ _ = _
  rw [z]
  rfl
end Go.Proofs.YtdnebgilkfafhaaGreatDoor.Pl
namespace Go.Proofs.YtdnebgilkfafhaaGreatDoor
open Go.RowKit
set_option linter.unusedVariables false
set_option linter.unusedSimpArgs false
attribute [local go_sem] ba_get ba_cut ba_add
theorem xor8 {x y z : UInt8} (h : x ^^^ y = z) : bits BinOp.xor IntKind.u8 (x.toNat : Int) (y.toNat : Int) = (z.toNat : Int) := by
  rw [Go.u8_xor_nat _ _ x.toNat_lt y.toNat_lt, ← h, UInt8.toNat_xor]
set_option maxRecDepth 100000 in
set_option maxHeartbeats 4000000 in
theorem at_any (A A' : Option Addr) (c c' : Nat) (xs ys : List UInt8) (x : UInt8) (w : World) (hr : Rd w 1 A xs.length (b8s xs)) (hr' : Rd w 1 A' xs.length (b8s ys)) (hl : xs.length ≤ 256) (hy : ys.length = xs.length) (hd : xs.Nodup) :
    Calls Tryz.prog 151 #[.slice A xs.length c, .slice A' xs.length c', .int .u8 (x.toNat : Int)] w (RetB (fun v _ => v = .tuple #[.int .u8 ((Pl.atL xs ys x).toNat : Int), .bool true]) w) := by
  have hdi := fun W hb => distinct_any A c xs W (hr.below hb) hl hd
  obtain ⟨R, hR⟩ : ∃ R, Pl.atL xs ys x = R := ⟨_, rfl⟩
  rw [hR]
  unfold Pl.atL at hR
  have HM := Lib.hid (fun a b W => mul_any a b W)
  have HI := Lib.hid (fun a W => inv_any a W)
  have HL := Lib.hid (And.intro hr (And.intro hr' (And.intro hdi (And.intro hy hR))))
  clear hr hr' hdi hy hR hd
  obtain ⟨n, hn⟩ : ∃ n, xs.length = n := ⟨_, rfl⟩
  have HN := Lib.hid hn
  rw [hn] at hl HL ⊢
  clear hn
  go_enter Tryz.func151, Tryz.ntmps151
  go_wp2_with fail
  (with_reducible refine (HL.out.2.2.1 _ (Below.refl _ _)).mono ?_)
  rintro y w1 ⟨v, rfl, rfl, hb1⟩
  have H1 := Lib.hid hb1
  clear hb1
  go_wp2_with fail
  go_loopw [8, 27] (fun v i wr => ∃ (k : Nat) (q : UInt8), k ≤ n ∧ i = .int .i64 (k : Int) ∧ v = .int .u8 (q.toNat : Int) ∧ wr = w1 ∧ Hid (q = Pl.atF xs ys x k)) (fun _ i _ => n - (intOf i).toNat)
  case atStart => exact ⟨0, 0, by omega, rfl, rfl, rfl, Lib.hid rfl⟩
  case round =>
    obtain ⟨k, q, hk, rfl, rfl, rfl, HK⟩ := hrel
    by_cases hkn : k < n
    · have hkl : k < xs.length := by rw [HN.out]; exact hkn
      have hky : k < ys.length := by rw [HL.out.2.2.2.1]; exact hkn
      obtain ⟨b, off, rfl, hbl, hc⟩ := (HL.out.1.below H1.out).at1 hkn
      rw [b8s_get xs k hkl] at hc
      obtain ⟨b', off', rfl, hbl', hc'⟩ := (HL.out.2.1.below H1.out).at1 hkn
      rw [b8s_get ys k hky] at hc'
      have hgx : xs.getD k 0 = xs[k] := by rw [List.getD_eq_getElem?_getD, List.getElem?_eq_getElem hkl]; rfl
      have hgy : ys.getD k 0 = ys[k] := by rw [List.getD_eq_getElem?_getD, List.getElem?_eq_getElem hky]; rfl
      obtain ⟨xk, hxk⟩ : ∃ z, xs[k] = z := ⟨_, rfl⟩
      obtain ⟨yk, hyk⟩ : ∃ z, ys[k] = z := ⟨_, rfl⟩
      rw [hxk] at hc hgx
      rw [hyk] at hc' hgy
      have HG := Lib.hid (And.intro hgx hgy)
      clear hxk hyk hgx hgy
      go_wp2_with fail
      go_loopw [11, 12, 38] (fun a e i wr2 => ∃ (j : Nat) (p r : UInt8), j ≤ n ∧ i = .int .i64 (j : Int) ∧ a = .int .u8 (p.toNat : Int) ∧ e = .int .u8 (r.toNat : Int) ∧ wr2 = wr ∧ Hid (p = Pl.abL xs x yk k j ∧ r = Pl.beL xs k j)) (fun _ _ i _ => n - (intOf i).toNat)
      case atStart => exact ⟨0, yk, 1, by omega, rfl, rfl, rfl, rfl, Lib.hid ⟨rfl, rfl⟩⟩
      case round =>
        obtain ⟨j, p, r, hj, rfl, rfl, rfl, rfl, HJ⟩ := hrel
        by_cases hjn : j < n
        · have hjl : j < xs.length := by rw [HN.out]; exact hjn
          obtain ⟨b2, off2, he2, hbl2, hc2⟩ := (HL.out.1.below H1.out).at1 hjn
          rw [b8s_get xs j hjl] at hc2
          cases he2
          have hgj : xs.getD j 0 = xs[j] := by rw [List.getD_eq_getElem?_getD, List.getElem?_eq_getElem hjl]; rfl
          obtain ⟨xj, hxj⟩ : ∃ z, xs[j] = z := ⟨_, rfl⟩
          rw [hxj] at hc2 hgj
          have hab := Pl.abL_succ xs x yk k j
          have hbe := Pl.beL_succ xs k j
          rw [hgj, ← HJ.out.1] at hab
          rw [hgj, HG.out.1, ← HJ.out.2] at hbe
          clear hxj hgj
          by_cases hjk : j = k
          · rw [if_pos hjk] at hab hbe
            have e1 : ((j : Int) != (k : Int)) = false := by simp; omega
            have HS := Lib.hid (And.intro hab.symm hbe.symm)
            clear hab hbe hjk
            go_wp2_with fail
            go_roundw
            case rel => exact ⟨j + 1, p, r, by omega, ret_i (by omega), rfl, rfl, trivial, HS⟩
            case measure => simp only [intOf]; omega
          · rw [if_neg hjk] at hab hbe
            have e1 : ((j : Int) != (k : Int)) = true := by rw [bne_iff_ne]; omega
            obtain ⟨z1, hz1⟩ : ∃ z, x ^^^ xj = z := ⟨_, rfl⟩
            obtain ⟨z2, hz2⟩ : ∃ z, xk ^^^ xj = z := ⟨_, rfl⟩
            have x1 := xor8 hz1
            have x2 := xor8 hz2
            rw [hz1] at hab
            rw [hz2] at hbe
            have HS := Lib.hid (And.intro hab.symm hbe.symm)
            clear hab hbe hjk hz1 hz2
            go_wp2_with fail
            (with_reducible refine (HM.out p z1 _).mono ?_)
            rintro yy w2 ⟨rfl, rfl⟩
            go_wp2_with fail
            (with_reducible refine (HM.out r z2 _).mono ?_)
            rintro yy w2 ⟨rfl, rfl⟩
            go_wp2_with fail
            go_roundw
            case rel => exact ⟨j + 1, Pl.mulB p z1, Pl.mulB r z2, by omega, ret_i (by omega), rfl, rfl, trivial, HS⟩
            case measure => simp only [intOf]; omega
        · have hje : j = n := by omega
          subst hje
          obtain ⟨iv, hiv⟩ : ∃ z, Pl.invB r = z := ⟨_, rfl⟩
          have hi := fun W => HI.out r W
          rw [hiv] at hi
          have HIr := Lib.hid hi
          obtain ⟨m, hm⟩ : ∃ z, Pl.mulB p iv = z := ⟨_, rfl⟩
          have hmm := fun W => HM.out p iv W
          rw [hm] at hmm
          have HMm := Lib.hid hmm
          obtain ⟨q2, hq2⟩ : ∃ z, q ^^^ m = z := ⟨_, rfl⟩
          have x3 := xor8 hq2
          have HS : Hid (q2 = Pl.atF xs ys x (k + 1)) := Lib.hid (by
            rw [Pl.atF_succ, ← HK.out, HG.out.2, HN.out, ← HJ.out.1, ← HJ.out.2, hiv, hm, hq2])
          clear hi hmm hiv hm hq2
          go_wp2_with fail
          (with_reducible refine (HIr.out _).mono ?_)
          rintro yy w2 ⟨rfl, rfl⟩
          go_wp2_with fail
          (with_reducible refine (HMm.out _).mono ?_)
          rintro yy w2 ⟨rfl, rfl⟩
          go_wp2_with fail
          go_roundw
          case rel => exact ⟨k + 1, q2, by omega, ret_i (by omega), rfl, trivial, HS⟩
          case measure => simp only [intOf]; omega
    · have hq : q = R := by
        rw [HK.out, ← HL.out.2.2.2.2]
        congr 1
        have := HN.out
        omega
      have HQ := Lib.hid hq
      clear hq HK
      go_wp2_with fail
      go_ret2
      refine ⟨_, rfl, ?_, H1.out⟩
      rw [HQ.out]
      rfl
end Go.Proofs.YtdnebgilkfafhaaGreatDoor
