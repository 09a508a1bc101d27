/- The walks of the document's Names, Great and Same of snapshots. -/
import Derived.Test.YtommlolhpaeioaaDoorInsW
namespace Go.Proofs.YtommlolhpaeioaaDoor
open Go.RowKit
set_option linter.unusedVariables false
set_option linter.unusedSimpArgs false
attribute [local go_sem] ba_get ba_cut ba_add
/-- The k-th row of names. -/
def Pl.ck (s : Pl.Snap) (k : Nat) : List (List UInt8) := if k = 0 then s.c0 else if k = 1 then s.c1 else s.c2
/-- The names of the first k rows. -/
def Pl.upto (s : Pl.Snap) (k : Nat) : List (List UInt8) := ([s.c0, s.c1, s.c2].take k).flatten
theorem upto_zero (s : Pl.Snap) : Pl.upto s 0 = [] := rfl
theorem upto_succ (s : Pl.Snap) {k : Nat} (h : k < 3) : Pl.upto s (k + 1) = Pl.upto s k ++ Pl.ck s k := by
  obtain rfl | rfl | rfl : k = 0 ∨ k = 1 ∨ k = 2 := by omega
  all_goals simp [Pl.upto, Pl.ck]
theorem upto_all (s : Pl.Snap) : Pl.upto s 3 = Pl.all3 s := by simp [Pl.upto, Pl.all3]
theorem upto_len (s : Pl.Snap) (k : Nat) : (Pl.upto s k).length ≤ s.c0.length + s.c1.length + s.c2.length := by
  match k with
  | 0 => simp [Pl.upto]
  | 1 => simp [Pl.upto]; omega
  | 2 => simp [Pl.upto]
  | k + 3 => simp [Pl.upto]; omega
theorem ck_fit {s : Pl.Snap} (h : SnFit s) (k : Nat) : (Pl.ck s k).length ≤ 140737488355328 ∧ ∀ t ∈ Pl.ck s k, t.length ≤ 140737488355328 := by
  unfold Pl.ck
  split
  · exact ⟨h.l0, h.c0⟩
  · split
    · exact ⟨h.l1, h.c1⟩
    · exact ⟨h.l2, h.c2⟩
theorem three (s : Pl.Snap) (X : Cx) {k : Nat} (hk : k < 3) : ∃ A n c, (∀ w, (Instr.index 24 (.agg #[.slice X.A0 X.n0 X.k0, .slice X.A1 X.n1 X.k1, .slice X.A2 X.n2 X.k2]) (.int .i64 (k : Int))).run Tryd.prog w = .ok (.slice A n c) w) ∧ (∀ w, SnOk w s X → SlAt w 1 A n c (strs (Pl.ck s k))) := by
  obtain ⟨i0, i1, i2⟩ := idx3 X
  obtain rfl | rfl | rfl : k = 0 ∨ k = 1 ∨ k = 2 := by omega
  · exact ⟨_, _, _, i0, fun w h => h.s0⟩
  · exact ⟨_, _, _, i1, fun w h => h.s1⟩
  · exact ⟨_, _, _, i2, fun w h => h.s2⟩
def Pl.totN (s : Pl.Snap) : Nat := s.m.length + sumLen (Pl.all3 s)
theorem sumLen_append (l k : List (List UInt8)) : sumLen (l ++ k) = sumLen l + sumLen k := by
  induction l with
  | nil => simp [sumLen]
  | cons x l ih => simp [sumLen, ih]; omega
theorem namesR_len (l : List (List UInt8)) : (Pl.namesR l).length ≤ l.length := by
  have key : ∀ (l a : List (List UInt8)), Pl.Rise a → (l.foldl Pl.insL a).length ≤ a.length + l.length := by
    intro l
    induction l with
    | nil => intro a _; simp
    | cons x l ih =>
      intro a ha
      have h1 := ih (Pl.insL a x) (Pl.insL_rise ha x)
      have h2 := Pl.insL_len ha x
      simp only [List.foldl_cons, List.length_cons]; omega
  have := key l [] List.Pairwise.nil
  simpa [Pl.namesR] using this
/-- A slice of texts. -/
def OutR (l : List (List UInt8)) (v : Value) (w' : World) : Prop := ∃ A c, v = .slice A l.length c ∧ Rd w' 1 A l.length (strs l)
set_option maxRecDepth 100000 in
set_option maxHeartbeats 4000000 in
theorem rnames_any (s : Pl.Snap) (X : Cx) (w : World) (hok : SnOk w s X) (hfit : SnFit s) (htot : s.c0.length + s.c1.length + s.c2.length ≤ 1099511627776) : Calls Tryd.prog 29 #[.agg (snL s X).toArray] w (RetB (OutR (Pl.namesR (Pl.all3 s))) w) := by
  obtain ⟨A0, n0, k0, A1, n1, k1, A2, n2, k2⟩ := X
  obtain ⟨R, hR⟩ : ∃ R, Pl.namesR (Pl.all3 s) = R := ⟨_, rfl⟩
  rw [hR]
  have HR := Lib.hid hR; clear hR
  have HF := Lib.hid (And.intro hfit htot); clear hfit htot
  go_enter Tryd.func29, Tryd.ntmps29
  go_upto_region 2 with (fail)
  generalize hV : (w.alloc _).alloc _ = V
  have hx : SnAt V w.heap.size 0 s ⟨A0, n0, k0, A1, n1, k1, A2, n2, k2⟩ := by rw [← hV]; exact (snAt_new w s _).below (by simp) ((Below.refl _ _).alloc (Nat.le_refl _) _)
  have hbV : Below w.heap.size w V := by rw [← hV]; exact ((Below.refl _ _).alloc (Nat.le_refl _) _).alloc (by simp) _
  have hr0 : Rd V 1 (some ⟨w.heap.size + 1, 0, none⟩) 0 (strs []) := Rd.zero
  replace hok := hok.below hbV
  clear hV
  obtain ⟨-, c0, c1, c2, c3, c4, c5, c6, c7, c8⟩ := hx
  simp only [Nat.zero_add] at c0 c1 c2 c3 c4 c5 c6 c7 c8
  go_wp2_with fail
  clear c0 c1 c2 c3 c4 c5 c6 c7 c8
  go_loopw [3, 11] (fun v i wr => ∃ (k : Nat) (o : List (List UInt8)) (B : Option Addr) (m cc : Nat), k ≤ 3 ∧ i = .int .i64 (k : Nat) ∧ v = .slice B m cc ∧ Rd wr 1 B m (strs o) ∧ SnOk wr s ⟨A0, n0, k0, A1, n1, k1, A2, n2, k2⟩ ∧ Below w.heap.size w wr ∧ Hid (Pl.namesR (Pl.upto s k) = o)) (fun _ i _ => 3 - (intOf i).toNat)
  case atStart => exact ⟨0, [], _, 0, 0, by omega, rfl, rfl, hr0, hok, hbV, rfl⟩
  case round =>
    clear hr0 hok hbV
    obtain ⟨k, o, B, m, cc, hk, rfl, rfl, hr, hok, hbV, HX⟩ := hrel
    by_cases hk3 : k < 3
    · obtain ⟨A, n, c, hix, hsl⟩ := three s ⟨A0, n0, k0, A1, n1, k1, A2, n2, k2⟩ hk3
      have hfit := ck_fit HF.out.1 k
      have hup := upto_succ s hk3
      have hnl : (Pl.ck s k).length = n := by have := (hsl wr hok).1.len1; rwa [strs_len] at this
      obtain ⟨L, hL⟩ : ∃ L, Pl.ck s k = L := ⟨_, rfl⟩
      rw [hL] at hsl hfit hup hnl
      have HL := Lib.hid (And.intro hsl (And.intro hfit (And.intro hup hnl))); clear hsl hfit hup hnl hL
      have hn : n ≤ 140737488355328 := by rw [← HL.out.2.2.2]; exact HL.out.2.1.1
      go_wp2_with fail
      obtain ⟨wo, rfl⟩ : ∃ wo : World, wo = wr := ⟨_, rfl⟩
      go_loopw [3, 16] (fun v i wr => ∃ (j : Nat) (p : List (List UInt8)) (B : Option Addr) (m cc : Nat), j ≤ n ∧ i = .int .i64 (j : Nat) ∧ v = .slice B m cc ∧ Rd wr 1 B m (strs p) ∧ SnOk wr s ⟨A0, n0, k0, A1, n1, k1, A2, n2, k2⟩ ∧ Below w.heap.size w wr ∧ Hid (Pl.namesR (Pl.upto s k ++ L.take j) = p)) (fun _ i _ => n - (intOf i).toNat)
      case atStart => exact ⟨0, o, _, m, cc, by omega, rfl, rfl, hr, hok, hbV, by simpa [Hid] using HX.out⟩
      case round =>
        clear hr hok hbV
        obtain ⟨j, p, B, m, cc, hj, rfl, rfl, hr, hok, hbV, HY⟩ := hrel
        by_cases hjn : j < n
        · have hjl : j < L.length := by rw [HL.out.2.2.2]; exact hjn
          obtain ⟨b1, o1, rfl, -, hc1⟩ := (HL.out.1 wr hok).1.at1 hjn
          rw [strs_get L j hjl] at hc1
          have hst : Pl.namesR (Pl.upto s k ++ L.take (j + 1)) = Pl.insL p L[j] := by
            rw [List.take_succ_eq_append_getElem hjl, ← List.append_assoc, ← HY.out]
            unfold Pl.namesR; rw [List.foldl_append]; rfl
          have hml : m ≤ 1099511627776 := by
            have h1 := hr.len1
            rw [strs_len] at h1
            have h2 := namesR_len (Pl.upto s k ++ L.take j)
            rw [HY.out, h1] at h2
            have h3 := upto_len s (k + 1)
            rw [HL.out.2.2.1] at h3
            have h4 := HF.out.2
            simp only [List.length_append, List.length_take] at h2 h3
            omega
          obtain ⟨x, hx⟩ : ∃ x, L[j] = x := ⟨_, rfl⟩
          rw [hx] at hc1 hst
          have hcall := insert_any B m cc p x wr hr hml
          obtain ⟨q, hq⟩ : ∃ q, Pl.insL p x = q := ⟨_, rfl⟩
          rw [hq] at hcall hst
          have HC := Lib.hid hcall
          have HS := Lib.hid hst
          clear hcall hst hq hx hml
          go_wp2_with fail
          (with_reducible refine HC.out.mono ?_)
          rintro e w1 ⟨v, rfl, ⟨A1', c1', rfl, hown⟩, hb1⟩
          go_wp2_with fail
          go_roundw
          case rel => exact ⟨j + 1, q, A1', q.length, c1', by omega, by go_num, rfl, Rd.own hown, hok.below hb1, hbV.trans (hb1.mono hbV.size), HS.out⟩
          case measure => simp [intOf]; omega
        · obtain rfl : j = n := by omega
          go_wp2_with fail
          go_roundw
          case rel => exact ⟨k + 1, p, B, m, cc, by omega, by go_num, rfl, hr, hok, hbV, by rw [HL.out.2.2.1]; have := HY.out; rwa [List.take_of_length_le (by rw [HL.out.2.2.2]; omega)] at this⟩
          case measure => simp [intOf]; omega
    · obtain rfl : k = 3 := by omega
      go_wp2_with fail
      go_ret
      have h1 := hr.len1
      rw [strs_len] at h1
      refine ⟨_, rfl, ?_, hbV⟩
      rw [← HR.out, ← upto_all, HX.out]
      exact ⟨B, cc, by rw [h1]; rfl, by rw [h1]; exact hr⟩
end Go.Proofs.YtommlolhpaeioaaDoor
