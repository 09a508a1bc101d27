/- The document's digest (layer 2): its sum is the program's. -/
import Derived.Test.YtdnebgilkfafhaaGreatDoorRt02
namespace Go.Proofs.YtdnebgilkfafhaaGreatDoor.Pl
set_option linter.unusedVariables false
set_option linter.unusedSimpArgs false
/-- The digest of bytes, block by block. -/
def digF : Nat → List Nat → List UInt8 → Nat → List UInt8
  | 0, _, _, _ => []
  | k + 1, h, s, n => if s.length ≤ 64 then (takeB h (s ++ List.replicate (64 - s.length) 0) (n + s.length) true).flatMap leB else digF k (takeB h (s.take 64) (n + 64) false) (s.drop 64) (n + 64)
theorem addF_full (k : Nat) (h : List Nat) (b : List UInt8) (n : Nat) {s : List UInt8} (hs : s ≠ []) : Blk.addF (k + 1) ⟨h, b, 64, n⟩ s = Blk.addF (k + 1) ⟨takeB h b ((n + 64) % 18446744073709551616) false, b, 0, (n + 64) % 18446744073709551616⟩ s := by
  have e : Blk.full ⟨h, b, 64, n⟩ = ⟨takeB h b ((n + 64) % 18446744073709551616) false, b, 0, (n + 64) % 18446744073709551616⟩ := by unfold Blk.full; rw [if_pos rfl]
  have e' : Blk.full ⟨takeB h b ((n + 64) % 18446744073709551616) false, b, 0, (n + 64) % 18446744073709551616⟩ = ⟨takeB h b ((n + 64) % 18446744073709551616) false, b, 0, (n + 64) % 18446744073709551616⟩ := by unfold Blk.full; rw [if_neg (show ¬ (0 : Nat) = 64 by decide)]
  rw [Blk.addF, Blk.addF, if_neg hs, if_neg hs, e, e']
theorem digF_eq : ∀ (k : Nat) (h : List Nat) (b : List UInt8) (n : Nat) (s : List UInt8), b.length = 64 → s.length ≤ k → n + s.length < 18446744073709551616 → (Blk.addF k ⟨h, b, 0, n⟩ s).digest = digF (k + 1) h s n := by
  intro k
  induction k using Nat.strongRecOn with
  | _ k ih =>
    intro h b n s hb hk hn
    rw [digF]
    by_cases hs : s = []
    · subst hs
      rw [if_pos (show ([] : List UInt8).length ≤ 64 from Nat.zero_le _)]
      have e : Blk.addF k ⟨h, b, 0, n⟩ [] = ⟨h, b, 0, n⟩ := by cases k <;> simp [Blk.addF]
      rw [e]
      unfold Blk.digest
      simp only [List.take_zero, List.nil_append, Nat.sub_zero, List.length_nil, Nat.add_zero]
      rw [Nat.mod_eq_of_lt (by simpa using hn)]
    · obtain ⟨k', rfl⟩ : ∃ k', k = k' + 1 := ⟨k - 1, by have := List.length_pos_iff.2 hs; omega⟩
      have hf : Blk.full ⟨h, b, 0, n⟩ = ⟨h, b, 0, n⟩ := by unfold Blk.full; rw [if_neg (show ¬ (0 : Nat) = 64 by decide)]
      rw [Blk.addF, if_neg hs, hf]
      have hlay : Blk.lay ⟨h, b, 0, n⟩ s = ⟨h, s.take 64 ++ b.drop (s.take 64).length, (s.take 64).length, n⟩ := by
        unfold Blk.lay layB
        simp
      rw [hlay]
      simp only [Nat.sub_zero]
      by_cases h64 : s.length ≤ 64
      · rw [if_pos h64, List.drop_of_length_le h64, List.take_of_length_le h64]
        have e : Blk.addF k' ⟨h, s ++ b.drop s.length, s.length, n⟩ [] = ⟨h, s ++ b.drop s.length, s.length, n⟩ := by cases k' <;> simp [Blk.addF]
        rw [e]
        unfold Blk.digest
        simp only [List.take_left]
        rw [Nat.mod_eq_of_lt hn]
      · rw [if_neg h64]
        have hl : (s.take 64).length = 64 := by rw [List.length_take]; omega
        have hd : s.drop 64 ≠ [] := by intro e; have := congrArg List.length e; simp at this; omega
        have hdl : (s.drop 64).length = s.length - 64 := List.length_drop
        obtain ⟨j, rfl⟩ : ∃ j, k' = j + 1 := ⟨k' - 1, by omega⟩
        rw [hl, List.drop_of_length_le (by omega), List.append_nil, addF_full j h (s.take 64) n hd, Nat.mod_eq_of_lt (by omega)]
        exact (ih (j + 1) (by omega) _ _ _ _ hl (by omega) (by omega)).trans rfl
theorem digF_more : ∀ (k : Nat) (h : List Nat) (s : List UInt8) (n j : Nat), s.length ≤ k → digF (k + 1 + j) h s n = digF (k + 1) h s n := by
  intro k
  induction k using Nat.strongRecOn with
  | _ k ih =>
    intro h s n j hk
    rw [show k + 1 + j = (k + j) + 1 by omega, digF, digF]
    by_cases h64 : s.length ≤ 64
    · rw [if_pos h64, if_pos h64]
    · rw [if_neg h64, if_neg h64]
      have hdl : (s.drop 64).length = s.length - 64 := List.length_drop
      obtain ⟨i, rfl⟩ : ∃ i, k = i + 64 := ⟨k - 64, by omega⟩
      have e1 := ih i (by omega) (takeB h (s.take 64) (n + 64) false) (s.drop 64) (n + 64) (63 + j) (by omega)
      have e2 := ih i (by omega) (takeB h (s.take 64) (n + 64) false) (s.drop 64) (n + 64) 63 (by omega)
      rw [show i + 64 + j = i + 1 + (63 + j) by omega, show i + 64 = i + 1 + 63 by omega, e1, e2]
theorem digF_last {L : Nat} {h : List Nat} {s : List UInt8} {n : Nat} (h64 : s.length ≤ 64) : digF (L + 1) h s n = (takeB h (s ++ List.replicate (64 - s.length) 0) (n + s.length) true).flatMap leB := by rw [digF, if_pos h64]
theorem digF_step {L : Nat} {h : List Nat} {s : List UInt8} {n : Nat} (h64 : 64 < s.length) (hL : s.length ≤ L) : digF (L + 1) h s n = digF (L + 1) (takeB h (s.take 64) (n + 64) false) (s.drop 64) (n + 64) := by
  have hdl : (s.drop 64).length = s.length - 64 := List.length_drop
  obtain ⟨k, hk⟩ : ∃ k, (s.drop 64).length = k := ⟨_, rfl⟩
  rw [digF, if_neg (by omega)]
  have e1 := digF_more k (takeB h (s.take 64) (n + 64) false) (s.drop 64) (n + 64) (L - (k + 1)) (by omega)
  have e2 := digF_more k (takeB h (s.take 64) (n + 64) false) (s.drop 64) (n + 64) (L - k) (by omega)
  rw [show k + 1 + (L - (k + 1)) = L by omega] at e1
  rw [show k + 1 + (L - k) = L + 1 by omega] at e2
  rw [e1, e2]
theorem takeB_all {h : List Nat} (hA : All32 h) {v : List Nat} (hv : All32 v) : All32 ((List.range 8).map fun i => h.getD i 0 ^^^ (v.getD i 0 ^^^ v.getD (i + 8) 0)) := fun i => by
  rw [List.getD_eq_getElem?_getD, List.getElem?_map]
  rcases Nat.lt_or_ge i 8 with hi | hi
  · rw [List.getElem?_range hi]; exact xor_lt (hA i) (xor_lt (hv i) (hv _))
  · rw [List.getElem?_eq_none (by simpa using hi)]; show (0 : Nat) < _; decide
theorem sumB_dig {s : List UInt8} (hs : s.length < 18446744073709551616) : sumB [s] = digF (s.length + 1) (beginB false) s 0 := by
  unfold sumB
  rw [List.foldl_cons, List.foldl_nil]
  unfold Blk.add
  exact digF_eq s.length _ _ 0 s (by simp) (Nat.le_refl _) (by omega)
end Go.Proofs.YtdnebgilkfafhaaGreatDoor.Pl
namespace Go.Proofs.YtdnebgilkfafhaaGreatDoor
open Go.RowKit
set_option linter.unusedVariables false
set_option linter.unusedSimpArgs false
attribute [local go_sem] ba_get ba_cut ba_add
set_option maxRecDepth 100000 in
/-- Of one part: that part. -/
theorem rjoined1_any (B : Nat) (s : List UInt8) (hs : s.length ≤ 1000000) (w : World) (hB : w.cell? ⟨B, 0, none⟩ = some (.string ⟨s.toArray⟩)) : Calls Tryz.prog 46 #[.slice (some ⟨B, 0, none⟩) 1 1] w (Ret (.string ⟨s.toArray⟩) w) := by
  go_enter Tryz.func46, Tryz.ntmps46
  go_upto_region 3 with (fail)
  go_loopw [3, 4] (fun sv iv wr => wr = w ∧ ((sv = .string ⟨#[]⟩ ∧ iv = .int .i64 0) ∨ (sv = .string ⟨s.toArray⟩ ∧ iv = .int .i64 1))) (fun _ iv _ => 1 - (intOf iv).toNat)
  case atStart => exact ⟨rfl, .inl ⟨rfl, rfl⟩⟩
  case round =>
    obtain ⟨rfl, h⟩ := hrel
    rcases h with ⟨rfl, rfl⟩ | ⟨rfl, rfl⟩
    · go_wp2_with fail
      exact ⟨⟨trivial, .inr ⟨rfl, rfl⟩⟩, by simp [intOf]⟩
    · go_wp2_with fail
      go_ret
      exact ⟨rfl, rfl⟩
theorem takeB_all32 {h : List Nat} (hA : Pl.All32 h) (hh : h.length = 8) {b : List UInt8} {n : Nat} (hn : n < 18446744073709551616) {last : Bool} : Pl.All32 (Pl.takeB h b n last) := by
  unfold Pl.takeB
  refine Pl.takeB_all hA ?_
  have hS : Pl.All32 (Pl.startV h n last) ∧ (Pl.startV h n last).length = 16 := by
    have hE := all32_eight hA hh
    have hl : (h ++ Pl.eight).length = 16 := by rw [List.length_append, hh]; rfl
    rw [startV_eq hh hn last]
    have h1 := (hE.set 12 (Pl.xor_lt (hE 12) (Nat.mod_lt n (by decide)))).set 13 (Pl.xor_lt (hE 13) (show n / 4294967296 < 4294967296 by omega))
    split
    · exact ⟨h1.set 14 (by omega), by simp [hl]⟩
    · exact ⟨h1, by simp [hl]⟩
  have h2 := (foldR_ok (Pl.words16 b) hS.2 hS.1 10 (Nat.le_refl _)).2
  rw [foldR_10] at h2
  exact h2
theorem dflat_get (H : List Nat) : ∀ (i : Nat), i < 4 * H.length → (H.flatMap Pl.leB).getD i 0 = UInt8.ofNat (H.getD (i / 4) 0 / 256 ^ (i % 4) % 256) := by
  induction H with
  | nil => intro i hi; simp at hi
  | cons x r ih =>
    intro i hi
    rw [List.flatMap_cons]
    by_cases h4 : i < 4
    · rw [List.getD_eq_getElem?_getD, List.getElem?_append_left (by rw [Pl.leB_len]; exact h4), show i / 4 = 0 by omega, show i % 4 = i by omega]
      have h : i = 0 ∨ i = 1 ∨ i = 2 ∨ i = 3 := by omega
      rcases h with rfl | rfl | rfl | rfl <;> simp [Pl.leB]
    · rw [List.getD_eq_getElem?_getD, List.getElem?_append_right (by rw [Pl.leB_len]; omega), Pl.leB_len, ← List.getD_eq_getElem?_getD, ih (i - 4) (by rw [List.length_cons] at hi; omega), show (i - 4) % 4 = i % 4 by omega, show i / 4 = (i - 4) / 4 + 1 by omega, List.getD_cons_succ]
/-- The first bytes of a digest, then zeros. -/
def part8 (O : List UInt8) (i : Nat) : List UInt8 := O.take i ++ List.replicate (32 - i) 0
theorem part8_len {O : List UInt8} (hO : O.length = 32) {i : Nat} (hi : i ≤ 32) : (part8 O i).length = 32 := by unfold part8; rw [List.length_append, List.length_take, List.length_replicate]; omega
theorem part8_32 {O : List UInt8} (hO : O.length = 32) : part8 O 32 = O := by unfold part8; rw [List.take_of_length_le (by omega)]; simp
theorem part8_step {O : List UInt8} (hO : O.length = 32) {i : Nat} (hi : i < 32) : (part8 O i).set i (O.getD i 0) = part8 O (i + 1) := by
  unfold part8
  rw [List.set_append_right _ _ (by rw [List.length_take]; omega), List.length_take, Nat.min_eq_left (by omega), Nat.sub_self, show 32 - i = (32 - (i + 1)) + 1 by omega, List.replicate_succ, List.set_cons_zero, List.take_succ_eq_append_getElem (by omega), List.append_assoc, List.getD_eq_getElem?_getD, List.getElem?_eq_getElem (by omega)]
  rfl
theorem info_32 : (Tryz.prog.info? 42).map (·.size) = some 32 := by kernel_rfl
set_option maxRecDepth 100000 in
set_option maxHeartbeats 8000000 in
theorem rdigest_any (h0 : List Nat) (hh0 : h0.length = 8) (hA0 : Pl.All32 h0) (s : List UInt8) (hs : s.length ≤ 1000000) (w : World) :
    Calls Tryz.prog 45 #[.agg (u32s h0).toArray, .string ⟨s.toArray⟩] w (RetB (fun v _ => v = .agg (u8s (Pl.digF (s.length + 1) h0 s 0)).toArray) w) := by
  obtain ⟨N, hN⟩ : ∃ N, w.heap.size = N := ⟨_, rfl⟩
  go_enter Tryz.func45, Tryz.ntmps45
  go_upto_region 2 with (fail)
  obtain ⟨R, hR⟩ : ∃ R, Pl.digF (s.length + 1) h0 s 0 = R := ⟨_, rfl⟩
  have HR := Lib.hid (show Pl.digF (s.length + 1) h0 (s.drop 0) 0 = R from hR)
  have HRe := Lib.hid hR
  generalize hW : World.alloc (World.alloc w _) _ = W0
  have hb0 : Below N w W0 := by rw [← hW]; exact ((Below.refl _ _).alloc (by omega) _).alloc (by simp; omega) _
  have hB0 : W0.heap[N]? = some (.cells (u32s h0).toArray 90 (0, 0)) := by
    rw [← hW, ← hN]
    exact (Below.heap_alloc _ _ _ (by simp)).trans (heap_alloc_new w _)
  have hr0 : ∃ Z : Array Value, Z.size = 32 ∧ W0.heap[N + 1]? = some (.cells Z 42 (0, 0)) := by
    rw [← hW, show N + 1 = (w.alloc (.cells (u32s h0).toArray 90)).heap.size by simp [hN]]
    exact ⟨_, by rfl, heap_alloc_new _ _⟩
  have HB := Lib.hid (And.intro hB0 (And.intro hr0 hb0))
  have HA := Lib.hid (And.intro hh0 hA0)
  try simp only [hN]
  clear hW hb0 hB0 hr0 hh0 hA0 hR
  go_loopw [5] (fun nv wr => ∃ (n : Nat) (h : List Nat), n ≤ s.length ∧ nv = .int .i64 (n : Int) ∧ Hid (Pl.digF (s.length + 1) h (s.drop n) n = R) ∧ Hid (h.length = 8 ∧ Pl.All32 h) ∧ Hid (wr.heap[N]? = some (.cells (u32s h).toArray 90 (0, 0)) ∧ (∃ Z : Array Value, Z.size = 32 ∧ wr.heap[N + 1]? = some (.cells Z 42 (0, 0))) ∧ Below N w wr)) (fun nv _ => s.length - (intOf nv).toNat)
  case atStart => exact ⟨0, h0, Nat.zero_le _, rfl, HR, HA, HB⟩
  case round =>
    obtain ⟨n, h, hn, rfl, HD, HA1, HS⟩ := hrel
    clear HR HA HB
    have hdl : (s.drop n).length = s.length - n := List.length_drop
    by_cases hl : s.length ≤ n + 64
    · have g1 : decide ((s.length : Int) ≤ (n : Int) + 64) = true := decide_eq_true (by omega)
      go_upto_region 8 with (fail)
      have hrest : (s.drop n).take (s.length - n) = s.drop n := List.take_of_length_le (by omega)
      obtain ⟨rest, hre⟩ : ∃ z, (s.drop n).take (s.length - n) = z := ⟨_, rfl⟩
      simp only [hre]
      have hrl : rest.length ≤ 64 := by rw [← hre, hrest]; omega
      have hD0 := HD.out
      rw [← hrest, hre, Pl.digF_last hrl] at hD0
      have hen : n + rest.length = s.length := by rw [← hre, hrest]; omega
      rw [hen] at hD0
      have HD0 := Lib.hid hD0
      clear hre hrest hD0 hdl hen HD
      go_loopw [8] (fun bv wx => ∃ bl : List UInt8, bv = .string ⟨bl.toArray⟩ ∧ bl.length ≤ 64 ∧ wx = wr ∧ Hid (rest.length ≤ bl.length ∧ bl = rest ++ List.replicate (bl.length - rest.length) 0)) (fun bv _ => 64 - strLen bv)
      case atStart => exact ⟨rest, rfl, hrl, rfl, Lib.hid ⟨Nat.le_refl _, by simp⟩⟩
      case round =>
       obtain ⟨bl, rfl, hbl, rfl, HBL⟩ := hrel
       by_cases hb64 : bl.length < 64
       · have g2 : decide ((bl.length : Int) < 64) = true := decide_eq_true (by omega)
         have HB2 := Lib.hid (show rest.length ≤ (bl ++ [0]).length ∧ bl ++ [0] = rest ++ List.replicate ((bl ++ [0]).length - rest.length) 0 by
           have h1 := HBL.out.1
           refine ⟨by rw [List.length_append]; omega, ?_⟩
           rw [List.length_append, show bl.length + [(0 : UInt8)].length - rest.length = (bl.length - rest.length) + 1 by simp only [List.length_cons, List.length_nil]; omega, List.replicate_succ', ← List.append_assoc, ← HBL.out.2])
         have hbl2 : (bl ++ [(0 : UInt8)]).length ≤ 64 := by rw [List.length_append]; simp only [List.length_cons, List.length_nil]; omega
         have hms : 64 - strLen (.string ⟨(bl ++ [0]).toArray⟩) < 64 - strLen (.string ⟨bl.toArray⟩) := by
           show 64 - (bl ++ [(0 : UInt8)]).toArray.size < 64 - bl.toArray.size
           rw [List.size_toArray, List.size_toArray, List.length_append]; simp only [List.length_cons, List.length_nil]; omega
         go_wp2_with fail
         exact ⟨⟨bl ++ [0], rfl, hbl2, trivial, HB2⟩, hms⟩
       · have hb : bl.length = 64 := by omega
         have g2 : decide ((bl.length : Int) < 64) = false := decide_eq_false (by omega)
         have hD1 := HD0.out
         have hbe := HBL.out.2
         rw [hb] at hbe
         rw [← hbe] at hD1
         have HD1 := Lib.hid hD1
         have wu : IntKind.u64.wrap (s.length : Int) = (s.length : Int) := by rw [IntKind.wrap_u64]; omega
         clear hD1 hbe HD0
         have hmt := fun W => rtake_any h HA1.out.1 HA1.out.2 bl hb s.length (by omega) true W
         obtain ⟨H, hH⟩ : ∃ z, Pl.takeB h bl s.length true = z := ⟨_, rfl⟩
         have hHl : H.length = 8 := by rw [← hH]; exact Pl.takeB_len _ _ _ _
         have hHA : Pl.All32 H := by rw [← hH]; exact takeB_all32 HA1.out.2 HA1.out.1 (by omega)
         rw [hH] at hmt
         have HMT := Lib.hid hmt
         have hr8 : wr.rangeAt N 0 (u32s h) := rangeL HS.out.1
         have hi8 : (Tryz.prog.info? 90).map (·.size) = some (u32s h).length := by rw [u32s_len, HA1.out.1]; exact info_8
         have HH := Lib.hid (And.intro hH (And.intro hHl hHA))
         clear hmt hH hHl hHA
         go_upto_region 12 with first
           | with_reducible refine wpList_load_mid rfl 90 _ rfl N 0 rfl (u32s h) _ hr8 Tryz.underlying90 rfl hi8 ?_
           | (with_reducible refine (HMT.out _).mono ?_)
         rintro _ w5 ⟨v, rfl, rfl, hb5⟩
         have hN5 : N < wr.heap.size := blk_lt HS.out.1
         have h5 := heap_keep HS.out.1 hb5
         have hT5 : w5.there N 0 (u32s H).toArray.size := thereL h5 (by rw [List.size_toArray, List.size_toArray, u32s_len, u32s_len, HH.out.2.1, HA1.out.1]; exact Nat.le_refl 8)
         have hi5 : (Tryz.prog.info? 90).map (·.size) = some (u32s H).toArray.size := by rw [List.size_toArray, u32s_len, HH.out.2.1]; exact info_8
         have ho5 := u32s_one H
         have hS6 : (w5.setCells N 0 (u32s H)).heap[N]? = some (.cells (u32s H).toArray 90 (0, 0)) := heap_setCells_all (C := u32s h) h5 (by rw [u32s_len, u32s_len, HH.out.2.1, HA1.out.1])
         have hZ6 : ∃ Z : Array Value, Z.size = 32 ∧ (w5.setCells N 0 (u32s H)).heap[N + 1]? = some (.cells Z 42 (0, 0)) := by
           obtain ⟨Z, hZ, hZ2⟩ := HS.out.2.1
           have hZ3 := heap_keep hZ2 hb5
           exact ⟨Z, hZ, (World.heap_setCells_other w5 _ _ _ (blk_lt hZ3) (by omega)).trans hZ3⟩
         have hB6 : Below N w (w5.setCells N 0 (u32s H)) := (HS.out.2.2.trans (hb5.mono (by omega))).trans (Lib.below_setCells_w (Nat.le_refl N) (u32s H) 0 w5)
         have HC := Lib.hid (And.intro hS6 (And.intro hZ6 hB6))
         clear hS6 hZ6 hB6 h5 hb5 hr8 hi8 HS HMT
         have hRe : H.flatMap Pl.leB = R := by rw [← HH.out.1]; exact HD1.out
         have hRl : R.length = 32 := by rw [← hRe, Pl.flat_len, HH.out.2.1]
         have hRg : ∀ i, i < 32 → R.getD i 0 = UInt8.ofNat (H.getD (i / 4) 0 / 256 ^ (i % 4) % 256) := fun i hi => by rw [← hRe]; exact dflat_get H i (by rw [HH.out.2.1]; omega)
         have HRG := Lib.hid (And.intro hRl hRg)
         clear hRe hRl hRg HD1
         go_upto_region 16 with first
           | with_reducible refine wpList_store_mid rfl 90 _ _ rfl N 0 (u32s H).toArray rfl rfl hT5 hi5 (all_oneCell_toArray ho5) ?_
         obtain ⟨W5, hW5⟩ : ∃ z, w5.setCells N 0 (u32s H) = z := ⟨_, rfl⟩
         rw [hW5] at HC
         simp only [hW5]
         clear hW5 hT5 hi5 ho5
         generalize hW : World.alloc W5 _ = W6
         have hz : W6.heap[W5.heap.size]? = some (.cells (u8s (part8 R 0)).toArray 42 (0, 0)) := by
           rw [← hW, show part8 R 0 = List.replicate 32 0 by simp [part8]]
           exact heap_alloc_new _ _
         have hb6 : Below W5.heap.size W5 W6 := by rw [← hW]; exact (Below.refl _ _).alloc (Nat.le_refl _) _
         obtain ⟨D, hD⟩ : ∃ z, W5.heap.size = z := ⟨_, rfl⟩
         rw [hD] at hz
         simp only [hD]
         have hND : N + 1 < D := by rw [← hD]; obtain ⟨Z, -, hZ2⟩ := HC.out.2.1; exact blk_lt hZ2
         have HS0 := Lib.hid (And.intro (heap_keep HC.out.1 hb6) (And.intro (show ∃ Z : Array Value, Z.size = 32 ∧ W6.heap[N + 1]? = some (.cells Z 42 (0, 0)) from let ⟨Z, h1, h2⟩ := HC.out.2.1; ⟨Z, h1, heap_keep h2 hb6⟩) (And.intro hz (HC.out.2.2.trans (hb6.mono (by omega))))))
         clear hW hz hb6 hD HC
         go_loopw [10] (fun iv wr => ∃ i : Nat, i ≤ 32 ∧ iv = .int .i64 (i : Int) ∧ Hid (wr.heap[N]? = some (.cells (u32s H).toArray 90 (0, 0)) ∧ (∃ Z : Array Value, Z.size = 32 ∧ wr.heap[N + 1]? = some (.cells Z 42 (0, 0))) ∧ wr.heap[D]? = some (.cells (u8s (part8 R i)).toArray 42 (0, 0)) ∧ Below N w wr)) (fun iv _ => 32 - (intOf iv).toNat)
         case atStart => exact ⟨0, by omega, rfl, HS0⟩
         case round =>
           obtain ⟨i, hi, rfl, HS⟩ := hrel
           clear HS0
           by_cases hi32 : i < 32
           · have gi : ((i : Int) < 32) = True := eq_true (by omega)
             have gi' : decide ((i : Int) < 32) = true := decide_eq_true (by omega)
             have gi0 : (0 : Int) ≤ (i : Int) := by omega
             have hrg := HRG.out.2 i hi32
             obtain ⟨q4, hq4⟩ : ∃ z, i / 4 = z := ⟨_, rfl⟩
             obtain ⟨r4, hr4⟩ : ∃ z, i % 4 = z := ⟨_, rfl⟩
             rw [hq4, hr4] at hrg
             have eq4 : Int.tdiv (i : Int) 4 = (q4 : Int) := by rw [Int.tdiv_eq_ediv_of_nonneg (by omega)]; omega
             have er4 : Int.tmod (i : Int) 4 = (r4 : Int) := by rw [Int.tmod_eq_emod_of_nonneg (by omega)]; omega
             have q8 : q4 < 8 := by omega
             have q8' : ((q4 : Int) < 8) = True := eq_true (by omega)
             have r44 : r4 < 4 := by omega
             have cH := u32s_cell HS.out.1 q4 (by rw [HH.out.2.1]; exact q8)
             have lx := HH.out.2.2 q4
             obtain ⟨x, hx⟩ : ∃ z, H.getD q4 0 = z := ⟨_, rfl⟩
             rw [hx] at cH hrg lx
             have HX := Lib.hid (And.intro hrg lx)
             clear hq4 hr4 hx hrg lx
             go_upto_region 20 with (fail)
             go_loopw [11, 12] (fun xv kv wx => ∃ k y : Nat, k ≤ r4 ∧ kv = .int .i64 (k : Int) ∧ xv = .int .u32 (y : Int) ∧ wx = wr ∧ Hid (y = x / 256 ^ k)) (fun _ kv _ => r4 - (intOf kv).toNat)
             case atStart => exact ⟨0, x, by omega, rfl, rfl, rfl, Lib.hid (by simp)⟩
             case round =>
               obtain ⟨k, y, hk, rfl, rfl, rfl, HY⟩ := hrel
               clear cH
               have ly : y < 4294967296 := by rw [HY.out]; exact Nat.lt_of_le_of_lt (Nat.div_le_self _ _) HX.out.2
               by_cases hkr : k < r4
               · have gk : decide (k < r4) = true := decide_eq_true hkr
                 have gk' : ((k : Int) < (r4 : Int)) = True := eq_true (by omega)
                 obtain ⟨z, hz⟩ : ∃ z, y / 256 = z := ⟨_, rfl⟩
                 have ez : Int.tdiv (y : Int) 256 = (z : Int) := by rw [Int.tdiv_eq_ediv_of_nonneg (by omega)]; omega
                 have HZ := Lib.hid (show z = x / 256 ^ (k + 1) by rw [← hz, HY.out, Nat.pow_succ, Nat.div_div_eq_div_mul])
                 have lz : z < 4294967296 := by omega
                 clear hz
                 go_wp2_with fail
                 exact ⟨⟨k + 1, z, by omega, ret_i (by omega), rfl, trivial, HZ⟩, by simp only [intOf]; omega⟩
               · have gk : decide (k < r4) = false := decide_eq_false hkr
                 have gk' : ((k : Int) < (r4 : Int)) = False := eq_false (by omega)
                 have hke : k = r4 := by omega
                 obtain ⟨c, hc⟩ : ∃ c, R.getD i 0 = c := ⟨_, rfl⟩
                 have hcv : (y : Int) % 256 = (c.toNat : Int) := by
                   rw [← hc, HX.out.1, ← hke, ← HY.out]
                   simp only [UInt8.toNat_ofNat']
                   omega
                 have cD : ∃ v, wr.cell? ⟨D, i, none⟩ = some v := by
                   rw [cell_row wr D i _ _ HS.out.2.2.1, List.getElem?_toArray, u8s_get _ i (by rw [part8_len HRG.out.1 hi]; exact hi32)]
                   exact ⟨_, rfl⟩
                 obtain ⟨v0, cD⟩ := cD
                 have fD := frozen_of wr D i _ _ HS.out.2.2.1
                 have hst := part8_step HRG.out.1 hi32
                 rw [hc] at hst
                 have hD2 : (wr.setCell ⟨D, i, none⟩ (.int .u8 (c.toNat : Int))).heap[D]? = some (.cells (u8s (part8 R (i + 1))).toArray 42 (0, 0)) := by
                   rw [set_at wr D i _ _ _ HS.out.2.2.1, List.setIfInBounds_toArray, u8s_set, hst]
                 have hN2 := (Below.heap_setCell wr ⟨D, i, none⟩ (.int .u8 (c.toNat : Int)) N (by show N ≠ D; omega)).trans HS.out.1
                 have hZ2 : ∃ Z : Array Value, Z.size = 32 ∧ (wr.setCell ⟨D, i, none⟩ (.int .u8 (c.toNat : Int))).heap[N + 1]? = some (.cells Z 42 (0, 0)) := let ⟨Z, h1, h2⟩ := HS.out.2.1; ⟨Z, h1, (Below.heap_setCell wr ⟨D, i, none⟩ (.int .u8 (c.toNat : Int)) (N + 1) (by show N + 1 ≠ D; omega)).trans h2⟩
                 have HC := Lib.hid (And.intro hN2 (And.intro hZ2 (And.intro hD2 (HS.out.2.2.2.setCell (p := ⟨D, i, none⟩) (by show N ≤ D; omega) (.int .u8 (c.toNat : Int))))))
                 clear hst hD2 hN2 hZ2 hc hke HS
                 go_wp2_with fail
                 exact ⟨⟨i + 1, by omega, ret_i (by omega), HC⟩, by simp only [intOf]; omega⟩
           · have hi0 : i = 32 := by omega
             have gi : ((i : Int) < 32) = False := eq_false (by omega)
             have gi' : decide ((i : Int) < 32) = false := decide_eq_false (by omega)
             rw [hi0, part8_32 HRG.out.1] at HS
             clear hi hi32 hi0
             have hrD : wr.rangeAt D 0 (u8s R) := rangeL HS.out.2.2.1
             have hiD : (Tryz.prog.info? 42).map (·.size) = some (u8s R).length := by rw [u8s_len, HRG.out.1]; exact info_32
             have hiD' : (Tryz.prog.info? 42).map (·.size) = some (u8s R).toArray.size := by rw [List.size_toArray, u8s_len, HRG.out.1]; exact info_32
             obtain ⟨Z, hZ, hZ2⟩ := HS.out.2.1
             have hTD : wr.there (N + 1) 0 (u8s R).toArray.size := thereL hZ2 (by rw [List.size_toArray, u8s_len, HRG.out.1, hZ]; exact Nat.le_refl 32)
             have hoD := u8s_one R
             clear hZ2 hZ
             go_wp2_with first
               | with_reducible refine wpList_load_mid rfl 42 _ rfl D 0 rfl (u8s R) _ hrD Tryz.underlying42 rfl hiD ?_
               | with_reducible refine wpList_store_mid rfl 42 _ _ rfl (N + 1) 0 (u8s R).toArray rfl rfl hTD hiD' (all_oneCell_toArray hoD) ?_
             refine bodyPost_ret (v := .agg (u8s R).toArray) (results_rowS (B := N + 1) rfl rfl (World.rangeAt_setCells_same _ _ _ _ (by simpa using hTD)) Tryz.underlying42 rfl hiD) rfl ?_
             exact ⟨_, rfl, by rw [HRe.out], by rw [hN]; exact HS.out.2.2.2.trans (Lib.below_setCells_w (by omega) (u8s R) 0 wr)⟩
    · have g1 : decide ((s.length : Int) ≤ (n : Int) + 64) = false := decide_eq_false (by omega)
      obtain ⟨e, he⟩ : ∃ z, n + 64 = z := ⟨_, rfl⟩
      have he' : (n : Int) + 64 = (e : Int) := by omega
      have wu : IntKind.u64.wrap (e : Int) = (e : Int) := by rw [IntKind.wrap_u64]; omega
      obtain ⟨bl, hbe⟩ : ∃ z, (s.drop n).take (e - n) = z := ⟨_, rfl⟩
      have hbe2 : (s.drop n).take 64 = bl := by rw [← hbe, show e - n = 64 by omega]
      have hbl : bl.length = 64 := by rw [← hbe2, List.length_take]; omega
      have hD0 := HD.out
      rw [Pl.digF_step (by omega) (by omega), hbe2, List.drop_drop, he] at hD0
      have HD0 := Lib.hid hD0
      have HBE := Lib.hid hbe
      have hes : e ≤ s.length := by omega
      have hne : n < e := by omega
      clear hD0 he hbe hbe2 hdl HD
      go_upto_region 11 with (fail)
      simp only [HBE.out]
      have hmt := fun W => rtake_any h HA1.out.1 HA1.out.2 bl hbl e (by omega) false W
      obtain ⟨H, hH⟩ : ∃ z, Pl.takeB h bl e false = z := ⟨_, rfl⟩
      have hHl : H.length = 8 := by rw [← hH]; exact Pl.takeB_len _ _ _ _
      have hHA : Pl.All32 H := by rw [← hH]; exact takeB_all32 HA1.out.2 HA1.out.1 (by omega)
      rw [hH] at hmt
      have HMT := Lib.hid hmt
      have hr8 : wr.rangeAt N 0 (u32s h) := rangeL HS.out.1
      have hi8 : (Tryz.prog.info? 90).map (·.size) = some (u32s h).length := by rw [u32s_len, HA1.out.1]; exact info_8
      have HH := Lib.hid (And.intro hH (And.intro hHl hHA))
      clear hmt hH hHl hHA
      go_upto_region 12 with first
        | with_reducible refine wpList_load_mid rfl 90 _ rfl N 0 rfl (u32s h) _ hr8 Tryz.underlying90 rfl hi8 ?_
        | (with_reducible refine (HMT.out _).mono ?_)
      rintro _ w5 ⟨v, rfl, rfl, hb5⟩
      have hN5 : N < wr.heap.size := blk_lt HS.out.1
      have h5 := heap_keep HS.out.1 hb5
      have hT5 : w5.there N 0 (u32s H).toArray.size := thereL h5 (by rw [List.size_toArray, List.size_toArray, u32s_len, u32s_len, HH.out.2.1, HA1.out.1]; exact Nat.le_refl 8)
      have hi5 : (Tryz.prog.info? 90).map (·.size) = some (u32s H).toArray.size := by rw [List.size_toArray, u32s_len, HH.out.2.1]; exact info_8
      have ho5 := u32s_one H
      have hS6 : (w5.setCells N 0 (u32s H)).heap[N]? = some (.cells (u32s H).toArray 90 (0, 0)) := heap_setCells_all (C := u32s h) h5 (by rw [u32s_len, u32s_len, HH.out.2.1, HA1.out.1])
      have hZ6 : ∃ Z : Array Value, Z.size = 32 ∧ (w5.setCells N 0 (u32s H)).heap[N + 1]? = some (.cells Z 42 (0, 0)) := by
        obtain ⟨Z, hZ, hZ2⟩ := HS.out.2.1
        have hZ3 := heap_keep hZ2 hb5
        exact ⟨Z, hZ, (World.heap_setCells_other w5 _ _ _ (blk_lt hZ3) (by omega)).trans hZ3⟩
      have hB6 : Below N w (w5.setCells N 0 (u32s H)) := (HS.out.2.2.trans (hb5.mono (by omega))).trans (Lib.below_setCells_w (Nat.le_refl N) (u32s H) 0 w5)
      have HC := Lib.hid (And.intro hS6 (And.intro hZ6 hB6))
      clear hS6 hZ6 hB6 h5 hb5 hr8 hi8 HS HMT
      go_wp2_with first
        | with_reducible refine wpList_store_mid rfl 90 _ _ rfl N 0 (u32s H).toArray rfl rfl hT5 hi5 (all_oneCell_toArray ho5) ?_
      refine ⟨⟨e, H, by omega, rfl, ?_, Lib.hid HH.out.2, HC⟩, by simp only [intOf]; omega⟩
      have hD1 := HD0.out
      rw [HH.out.1] at hD1
      exact Lib.hid hD1
set_option maxRecDepth 100000 in
set_option maxHeartbeats 8000000 in
theorem rsum1_any (B : Nat) (s : List UInt8) (hs : s.length ≤ 1000000) (w : World) (hB : w.cell? ⟨B, 0, none⟩ = some (.string ⟨s.toArray⟩)) (hBw : B < w.heap.size) : Calls Tryz.prog 16 #[.slice (some ⟨B, 0, none⟩) 1 1] w (RetB (fun v _ => v = .agg (u8s (Pl.sumB [s])).toArray) w) := by
  obtain ⟨N, hN⟩ : ∃ N, w.heap.size = N := ⟨_, rfl⟩
  have hsd := Pl.sumB_dig (s := s) (by omega)
  obtain ⟨R, hR⟩ : ∃ R, Pl.sumB [s] = R := ⟨_, rfl⟩
  rw [hR] at hsd ⊢
  have HSD := Lib.hid hsd
  clear hsd hR
  go_enter Tryz.func16, Tryz.ntmps16
  go_upto_region 1 with (fail)
  generalize hW : World.alloc w _ = W0
  have hz0 : ∃ Z : Array Value, Z.size = 32 ∧ W0.heap[N]? = some (.cells Z 42 (0, 0)) := by
    rw [← hW, ← hN]
    exact ⟨_, by rfl, heap_alloc_new _ _⟩
  have hb0 : Below N w W0 := by rw [← hW]; exact (Below.refl _ _).alloc (by omega) _
  obtain ⟨Z, hZ, hz0⟩ := hz0
  clear hW
  go_upto_region 2 with (with_reducible refine (reight_any W0).mono ?_)
  rintro _ w1 ⟨v, rfl, rfl, hb1⟩
  obtain ⟨L8, hL8⟩ : ∃ L, u32s Pl.eight = L := ⟨_, rfl⟩
  have hl8 : L8.length = 8 := by rw [← hL8]; rfl
  have ho8 : ∀ v ∈ L8, v.oneCell' = true := by rw [← hL8]; exact u32s_one _
  rw [hL8]
  have hbt : (w1.alloc (.cells z8 90)).there w1.heap.size 0 L8.toArray.size := thereL (heap_alloc_new w1 _) (by rw [List.size_toArray, hl8]; exact Nat.le_refl 8)
  have hbi : (Tryz.prog.info? 90).map (·.size) = some L8.toArray.size := by rw [List.size_toArray, hl8]; exact info_8
  go_upto_region 2 with first
    | with_reducible refine wpList_store_mid rfl 90 _ _ rfl w1.heap.size 0 L8.toArray rfl rfl hbt hbi (all_oneCell_toArray ho8) ?_
  obtain ⟨W2, hW2⟩ : ∃ W', (w1.alloc (.cells z8 90)).setCells w1.heap.size 0 L8 = W' := ⟨_, rfl⟩
  have hat : W2.heap[w1.heap.size]? = some (.cells (u32s Pl.eight).toArray 90 (0, 0)) := by
    rw [← hW2, hL8]
    exact heap_setCells_all (C := z8.toList) (heap_alloc_new w1 _) (by rw [hl8]; rfl)
  have hbl : Below w1.heap.size w1 W2 := by
    rw [← hW2]
    exact ((Below.refl _ _).alloc (Nat.le_refl _) _).trans (Lib.below_setCells_w (Nat.le_refl _) L8 0 _)
  obtain ⟨T, hT⟩ : ∃ T', w1.heap.size = T' := ⟨_, rfl⟩
  rw [hT] at hW2 hat
  simp only [hT]
  simp only [hW2]
  have hs1 := hb1.size
  have hs0 := blk_lt hz0
  have hNT : N < T := by omega
  have hb12 := hb1.trans (hbl.mono (by omega))
  have hbw2 : Below N w W2 := hb0.trans (hb12.mono (by omega))
  have hz2 := heap_keep hz0 hb12
  have hB2 : W2.cell? ⟨B, 0, none⟩ = some (.string ⟨s.toArray⟩) := (hbw2.cell (p := ⟨B, 0, none⟩) (by show B < N; omega)).trans hB
  have c0 := u32s_cell hat 0 (by decide)
  have f0 := frozen_of W2 T 0 _ _ hat
  obtain ⟨a0, ha0⟩ : ∃ z, Pl.eight.getD 0 0 = z := ⟨_, rfl⟩
  have l0 : a0 < 4294967296 := by rw [← ha0]; decide
  rw [ha0] at c0
  have ex : bits .xor .u32 (a0 : Int) 16842784 = ((a0 ^^^ 16842784 : Nat) : Int) := Go.u32_xor_nat a0 16842784 l0 (by decide)
  have hbe : Pl.eight.set 0 (a0 ^^^ 16842784) = Pl.beginB false := by unfold Pl.beginB; rw [ha0]; rfl
  obtain ⟨y0, hy0⟩ : ∃ z, a0 ^^^ 16842784 = z := ⟨_, rfl⟩
  rw [hy0] at ex hbe
  have HAT := Lib.hid (And.intro hat (And.intro hbw2 (And.intro hz2 (And.intro hB2 hbe))))
  clear hz0 hb0 hb1 hL8 hl8 ho8 hbt hbi hW2 hat hbl hT hs1 hb12 hbw2 hz2 hB2 ha0 hy0 hB l0 hbe
  go_upto_region 3 with (fail)
  have h3 := u32s_store HAT.out.1 0 y0
  rw [HAT.out.2.2.2.2] at h3
  have hb3 : Below N w (W2.setCell ⟨T, 0, none⟩ (.int .u32 (y0 : Int))) := HAT.out.2.1.setCell (p := ⟨T, 0, none⟩) (by show N ≤ T; omega) _
  have hz3 := (Below.heap_setCell W2 ⟨T, 0, none⟩ (.int .u32 (y0 : Int)) N (by show N ≠ T; omega)).trans HAT.out.2.2.1
  have hB3 : (W2.setCell ⟨T, 0, none⟩ (.int .u32 (y0 : Int))).cell? ⟨B, 0, none⟩ = some (.string ⟨s.toArray⟩) := (World.cell?_of_block (Below.heap_setCell W2 ⟨T, 0, none⟩ (.int .u32 (y0 : Int)) B (by show B ≠ T; omega))).trans HAT.out.2.2.2.1
  obtain ⟨W3, hW3⟩ : ∃ z, W2.setCell ⟨T, 0, none⟩ (.int .u32 (y0 : Int)) = z := ⟨_, rfl⟩
  rw [hW3] at h3 hb3 hz3 hB3
  simp only [hW3]
  clear hW3 c0 f0 ex HAT
  have hbl8 : (Pl.beginB false).length = 8 := by decide
  have hbA : Pl.All32 (Pl.beginB false) := fun i => by
    have h8 : ∀ x ∈ Pl.beginB false, x < 4294967296 := by decide
    rw [List.getD_eq_getElem?_getD]
    rcases Nat.lt_or_ge i (Pl.beginB false).length with hk | hk
    · rw [List.getElem?_eq_getElem hk]; exact h8 _ (List.getElem_mem hk)
    · rw [List.getElem?_eq_none hk]; decide
  have hdg := fun W => rdigest_any (Pl.beginB false) hbl8 hbA s hs W
  rw [← HSD.out] at hdg
  have hiB : (Tryz.prog.info? 90).map (·.size) = some (u32s (Pl.beginB false)).length := by rw [u32s_len, hbl8]; exact info_8
  obtain ⟨LB, hLB⟩ : ∃ z, u32s (Pl.beginB false) = z := ⟨_, rfl⟩
  rw [hLB] at h3 hdg hiB
  have HDG := Lib.hid hdg
  have hlR : R.length = 32 := by rw [HSD.out, ← Pl.sumB_dig (s := s) (by omega)]; exact Pl.sumB_len _
  clear hLB hdg hbl8 hbA HSD
  refine wp_region_held_drew (S := (fun w' => w'.rangeAt T 0 LB ∧ w'.cell? ⟨B, 0, none⟩ = some (.string ⟨s.toArray⟩))) (by kernel_rfl) (by exact ⟨rangeL h3, hB3⟩) (fun hHeld => ?_)
  refine wpAnyH_take (i := 0) (v := .agg (LB).toArray) rfl (by kernel_rfl) (by kernel_rfl) (by kernel_rfl) (fun _ _ _ h => h) (yieldsIf_load_mid (by kernel_rfl) 90 _ rfl (T) (0) rfl LB _ (fun _ h => h.1) Tryz.underlying90 rfl hiB) hHeld ?_
  simp only [Act.put, lay9]
  refine tk 1 (v := ?_) rfl ?_ hHeld ?_
  rotate_left
  · (intro w' hSw; (try dsimp only at hSw); (try obtain ⟨hS0, hS1⟩ := hSw); go_simp; try with_reducible rfl)
  simp only [Act.put, lay9]
  refine still_take (i := 2) (v := (.string ⟨s.toArray⟩)) rfl (by kernel_rfl) (fun _ _ _ h => h) _ _ _ _ (by kernel_rfl) (by kernel_rfl) ⟨by rfl, _, _, fun w' hSw => ⟨?_, (rjoined1_any B s hs w' hSw.2)⟩⟩ hHeld ?_
  · (try dsimp only at hSw); go_simp; try with_reducible rfl
  simp only [Act.put, lay9]
  refine wpAnyH_ready (rs := [3]) (by kernel_rfl) (by simp) (AllReadyH.cons rfl (fun K hK => ?_) AllReadyH.nil)
  go_simp
  (with_reducible refine (HDG.out _).mono ?_)
  rintro _ w5 ⟨v, rfl, rfl, hb5⟩
  have hb35 : Below W3.heap.size W3 w5 := (Below.refl _ _).drew.trans hb5
  have h5 := heap_keep h3 hb35
  have hz5 := heap_keep hz3 hb35
  have hs3 := hb3.size
  have hB5 := (hb35.cell (p := ⟨B, 0, none⟩) (by show B < W3.heap.size; omega)).trans hB3
  have hbw5 : Below N w w5 := hb3.trans (hb35.mono (by omega))
  refine hK.out _ _ ⟨rangeL h5, hB5⟩ (fun hHeld => ?_)
  clear hK K
  (try simp only [Act.put, lay9])
  refine wpAnyH_ready (rs := [4]) (by kernel_rfl) (by simp) (AllReadyH.cons rfl (fun K hK => ?_) AllReadyH.nil)
  have hiD : (Tryz.prog.info? 42).map (·.size) = some (u8s R).length := by rw [u8s_len, hlR]; exact info_32
  have hiD' : (Tryz.prog.info? 42).map (·.size) = some (u8s R).toArray.size := by rw [List.size_toArray, u8s_len, hlR]; exact info_32
  have hTD : w5.there N 0 (u8s R).toArray.size := thereL hz5 (by rw [List.size_toArray, u8s_len, hlR, hZ]; exact Nat.le_refl 32)
  have hoD := u8s_one R
  refine wp_store_mid 42 _ _ rfl N 0 (u8s R).toArray rfl rfl hTD hiD' (all_oneCell_toArray hoD) ?_
  have hk5 : ∀ g, g ≠ N → g < w5.heap.size → (w5.setCells N 0 (u8s R)).heap[g]? = w5.heap[g]? := fun g hg hs => World.heap_setCells_other w5 _ _ _ hs hg
  have h6 := (hk5 T (by omega) (blk_lt h5)).trans h5
  have hB6 : (w5.setCells N 0 (u8s R)).cell? ⟨B, 0, none⟩ = some (.string ⟨s.toArray⟩) := (World.cell?_of_block (hk5 B (by omega) (by have := hbw5.size; omega))).trans hB5
  refine hK.out _ _ ⟨rangeL h6, hB6⟩ (fun hHeld => ?_)
  clear hK K
  (try simp only [Act.put, lay9])
  refine wpAnyH_done (by kernel_rfl) ?_ _
  clear hHeld
  go_wp2_with fail
  refine bodyPost_ret (v := .agg (u8s R).toArray) (results_rowS (B := N) rfl rfl (World.rangeAt_setCells_same _ _ _ _ (by simpa using hTD)) Tryz.underlying42 rfl hiD) rfl ?_
  exact ⟨_, rfl, rfl, by rw [hN]; exact hbw5.trans (Lib.below_setCells_w (Nat.le_refl N) (u8s R) 0 w5)⟩
end Go.Proofs.YtdnebgilkfafhaaGreatDoor
