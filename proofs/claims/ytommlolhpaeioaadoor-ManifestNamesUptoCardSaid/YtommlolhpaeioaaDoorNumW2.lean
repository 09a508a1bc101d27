/- The walks of the reference's Same, length, Row, of the statements' long. The walks of the reference's length and Row. -/
import Derived.Test.YtommlolhpaeioaaDoorBase
import Derived.Test.YtommlolhpaeioaaDoorNumPlain
import Derived.Deep.QuietTactic
import Derived.BigQuiet
import Derived.Deep.RegionWith
import Derived.Deep.RegionHeld3
namespace Go.Proofs.YtommlolhpaeioaaDoor
open Go.RowKit
attribute [local go_sem] ba_get

/-- Drawn a few times, the world else as it was. -/
def RetQ (v : Value) (w : World) (e : Ending) (w' : World) : Prop := e = .returned v ∧ ∃ n, w' = w.drewN n

set_option maxRecDepth 100000 in
set_option maxHeartbeats 400000 in
theorem same_any (A B : Option Addr) (n m c d : Nat) (l k : List (List UInt8)) (w : World) (ha : Rd w 1 A n (strs l)) (hb : Rd w 1 B m (strs k)) (hn : n ≤ 9223372036854775807) (hm : m ≤ 9223372036854775807) :
    Calls Tryd.prog 27 #[.slice A n c, .slice B m d] w (RetQ (.bool (decide (l = k))) w) := by
  have hl := ha.len1; rw [strs_len] at hl
  have hk := hb.len1; rw [strs_len] at hk
  by_cases hnm : n = m
  · subst hnm
    have hnn : ((n : Int) != n) = false := by simp
    have HL := Lib.hid hl; clear hl
    have HK := Lib.hid hk; clear hk
    go_enter Tryd.func27, Tryd.ntmps27
    go_wp2
    go_loopw [13] (fun i wr => ∃ (j q : Nat), j ≤ n ∧ i = .int .i64 j ∧ wr = w.drewN q ∧ Hid (l.take j = k.take j)) (fun i _ => n - (intOf i).toNat)
    case atStart => exact ⟨0, 0, Nat.zero_le _, rfl, rfl, by simp [Hid]⟩
    case round =>
      obtain ⟨j, q, hj, rfl, rfl, H⟩ := hrel
      by_cases hlt : j < n
      · obtain ⟨b1, o1, rfl, -, hc1⟩ := ha.at1 hlt
        obtain ⟨b2, o2, rfl, -, hc2⟩ := hb.at1 hlt
        rw [strs_get l j (by rw [HL.out]; exact hlt)] at hc1
        rw [strs_get k j (by rw [HK.out]; exact hlt)] at hc2
        obtain ⟨x, hx⟩ : ∃ x, l[j]'(by rw [HL.out]; exact hlt) = x := ⟨_, rfl⟩
        obtain ⟨y, hy⟩ : ∃ y, k[j]'(by rw [HK.out]; exact hlt) = y := ⟨_, rfl⟩
        rw [hx] at hc1; rw [hy] at hc2
        have HX := Lib.hid hx; clear hx
        have HY := Lib.hid hy; clear hy
        go_wp2
        go_quiet (fail)
        go_wp2
        · go_ret
          rename_i hne
          have hne' : x ≠ y := by simpa using hne
          refine ⟨?_, _, World.drewN_drewN _ _ _⟩
          have : ¬ l = k := by
            rintro rfl
            exact hne' (HX.out.symm.trans HY.out)
          simp [this]
        · rename_i heq
          have heq' : x = y := by simpa using heq
          go_roundw
          case rel =>
            refine ⟨j + 1, _, by omega, by go_num, rfl, ?_⟩
            have h1 : j < l.length := by rw [HL.out]; exact hlt
            have h2 : j < k.length := by rw [HK.out]; exact hlt
            show List.take (j + 1) l = List.take (j + 1) k
            rw [List.take_succ_eq_append_getElem h1, List.take_succ_eq_append_getElem h2, H.out, HX.out, HY.out, heq']
          case measure => simp [intOf]; omega
      · go_wp2
        go_ret
        refine ⟨?_, _, rfl⟩
        have h1 := H.out
        rw [List.take_of_length_le (by rw [HL.out]; omega), List.take_of_length_le (by rw [HK.out]; omega)] at h1
        simp [h1]
  · have hnm' : ((n : Int) != m) = true := by rw [bne_iff_ne]; omega
    have HL := Lib.hid hl; clear hl
    have HK := Lib.hid hk; clear hk
    go_enter Tryd.func27, Tryd.ntmps27
    go_wp2
    go_ret
    refine ⟨?_, 0, rfl⟩
    have : ¬ l = k := by
      rintro rfl
      exact hnm (HL.out.symm.trans HK.out)
    simp [this]

/-- Are texts more than are looked at? -/
def sumLen : List (List UInt8) → Nat
  | [] => 0
  | s :: l => s.length + 1 + sumLen l
theorem sumLen_snoc (l : List (List UInt8)) (s : List UInt8) : sumLen (l ++ [s]) = sumLen l + (s.length + 1) := by
  induction l with
  | nil => simp [sumLen]
  | cons x l ih => simp [sumLen, ih]; omega
theorem sumLen_take (l : List (List UInt8)) (j : Nat) (h : j < l.length) : sumLen (l.take (j + 1)) = sumLen (l.take j) + (l[j].length + 1) := by
  rw [List.take_succ_eq_append_getElem h, sumLen_snoc]
theorem sumLen_le (l : List (List UInt8)) (j : Nat) : sumLen (l.take j) ≤ sumLen l := by
  induction l generalizing j with
  | nil => simp [sumLen]
  | cons x l ih => cases j <;> simp [sumLen]; exact ih _
theorem sumLen_length (l : List (List UInt8)) : l.length ≤ sumLen l := by
  induction l with
  | nil => simp [sumLen]
  | cons x l ih => simp [sumLen]; omega

end Go.Proofs.YtommlolhpaeioaaDoor
namespace Go.Proofs.YtommlolhpaeioaaDoor
open Go.RowKit
attribute [local go_sem] ba_get

theorem conv_byte (w : World) (b off c : Nat) (x : Int) (h : w.cell? ⟨b, off, none⟩ = some (.int .u8 x)) :
    (convert 53 9 (.slice (some ⟨b, off, none⟩) 1 c)).run Tryd.prog w = .ok (.string ⟨#[UInt8.ofNat x.toNat]⟩) w := by
  rw [run_convert_bytes_string w _ _ _ _ _ _ Tryd.underlying53 Tryd.underlying5 Tryd.underlying9]
  rw [run_bytesToString w ⟨b, off, none⟩ 1 c [x] ?_]
  · rfl
  · simp [loadCells, go_sem, h]
theorem cat_lists {P : Program} (w : World) (x y : List UInt8) (h : x.length + y.length ≤ 9223372036854775807) : (Op.stringOp .add ⟨x.toArray⟩ ⟨y.toArray⟩).run P w = .ok (.string ⟨(x ++ y).toArray⟩) w := by
  rw [run_string_add_sum w _ _ (by simpa [ByteArray.size] using h), ByteArray.mk_append_mk]
attribute [local go_sem] conv_byte
attribute [local go_sem] ba_add

theorem keep_new {w w' : World} {x : Value} {t : TypeId} {B : Nat} (hb : Below B (w.alloc (.cells #[x] t)).drew w') (hB : B = (w.alloc (.cells #[x] t)).drew.heap.size := by rfl) : w'.cell? ⟨w.heap.size, 0, none⟩ = some x := by
  subst hB
  refine (hb.cell (p := ⟨w.heap.size, 0, none⟩) (by simp)).trans ?_
  simp [go_sem]

set_option maxRecDepth 100000 in
set_option maxHeartbeats 400000 in
theorem rlength_any (k : Nat) : ∀ (n : Int) (w : World), 0 ≤ n → n ≤ k → n ≤ 4611686018427387904 →
    Calls Tryd.prog 80 #[.int .i64 n] w (RetB (fun v _ => v = .string ⟨(Pl.lenB n.toNat).toArray⟩) w) := by
  induction k with
  | zero =>
    intro n w h0 hk hn
    have hlt : n < 128 := by omega
    go_enter Tryd.func80, Tryd.ntmps80
    go_wp2_with fail
    go_ret
    exact ⟨_, rfl, by rw [Pl.lenB_lt _ (by omega)]; rfl, (Below.refl _ _).alloc (Nat.le_refl _) _⟩
  | succ k ih =>
    have IH := Lib.hid ih; clear ih
    intro n w h0 hk hn
    by_cases h : n < 128
    · go_enter Tryd.func80, Tryd.ntmps80
      go_wp2_with fail
      go_ret
      exact ⟨_, rfl, by rw [Pl.lenB_lt _ (by omega)]; rfl, (Below.refl _ _).alloc (Nat.le_refl _) _⟩
    · have e1 : IntKind.i64.wrap (n / 128) = n / 128 := IntWalk.i64_in _ (by omega)
      have e5 : n.tdiv 128 = n / 128 := Int.tdiv_eq_ediv_of_nonneg h0
      have e2 : n.tmod 128 = n % 128 := Int.tmod_eq_emod_of_nonneg h0
      have e3 : IntKind.i64.wrap (n % 128 + 128) = n % 128 + 128 := IntWalk.i64_in _ (by omega)
      have e4 : IntKind.u8.wrap (n % 128 + 128) = n % 128 + 128 := IntWalk.u8_in _ (by omega)
      have hx0 : 0 ≤ n / 128 := by omega
      have hx1 : n / 128 ≤ k := by omega
      have hx2 : n / 128 ≤ 4611686018427387904 := by omega
      have hcat : 1 + (Pl.lenB (n / 128).toNat).length ≤ 9223372036854775807 := by
        have := Pl.lenB_len (n / 128).toNat
        omega
      go_enter Tryd.func80, Tryd.ntmps80
      go_wp2_with fail
      go_region_with (go_at_call 80; (with_reducible refine (IH.out (n / 128) _ hx0 hx1 hx2).mono ?_); rintro e w' ⟨v, rfl, rfl, hb⟩; (try have hc := keep_new hb))
      all_goals go_wp2
      all_goals go_ret
      all_goals refine ⟨_, rfl, ?_, ?_⟩
      all_goals first
        | (show Value.string _ = Value.string _; rw [Pl.lenB_ge n.toNat (by omega), show n.toNat / 128 = (n / 128).toNat by omega, show n.toNat % 128 + 128 = (n % 128 + 128).toNat by omega])
        | exact (((Below.refl w.heap.size w).alloc (Nat.le_refl _) _).drew).trans (hb.mono (by simp))
        | exact ((Below.refl w.heap.size w).drew.trans hb).alloc hb.size _

set_option maxRecDepth 100000 in
set_option maxHeartbeats 400000 in
theorem rrow_any (A : Option Addr) (n c : Nat) (l : List (List UInt8)) (w : World) (ha : Rd w 1 A n (strs l)) (hn : n ≤ 9223372036854775807) (hb : (Pl.rowB l).length ≤ 140737488355328) :
    Calls Tryd.prog 50 #[.slice A n c] w (RetB (fun v _ => v = .string ⟨(Pl.rowB l).toArray⟩) w) := by
  have hl := ha.len1; rw [strs_len] at hl
  have HL := Lib.hid hl; clear hl
  have HB := Lib.hid hb; clear hb
  go_enter Tryd.func50, Tryd.ntmps50
  go_wp2_with fail
  go_loopw [3, 8] (fun t i wr => ∃ (j : Nat) (b : List UInt8), j ≤ n ∧ i = .int .i64 j ∧ t = .string ⟨b.toArray⟩ ∧ Below w.heap.size w wr ∧ Hid (Pl.rowB (l.take j) = b)) (fun _ i _ => n - (intOf i).toNat)
  case atStart => exact ⟨0, [], Nat.zero_le _, rfl, rfl, Below.refl _ _, by simp [Hid, Pl.rowB]⟩
  case round =>
    obtain ⟨j, b, hj, rfl, rfl, hbw, H⟩ := hrel
    by_cases hlt : j < n
    · have ha' := ha.below hbw
      obtain ⟨b1, o1, rfl, -, hc1⟩ := ha'.at1 hlt
      have hjl : j < l.length := by rw [HL.out]; exact hlt
      rw [strs_get l j hjl] at hc1
      have hst := Pl.rowB_take l j hjl
      have hle := Pl.rowB_take_le l (j + 1)
      rw [hst, H.out] at hle
      rw [H.out] at hst
      obtain ⟨x, hx⟩ : ∃ x, l[j] = x := ⟨_, rfl⟩
      rw [hx] at hc1 hst hle
      have hcat1 : b.length + ((Pl.lenB x.length).length + x.length) ≤ 9223372036854775807 := by
        have := HB.out
        simp at hle; omega
      have hcat2 : (Pl.lenB x.length).length + x.length ≤ 9223372036854775807 := by omega
      have hx47 : x.length ≤ 140737488355328 := by
        have := HB.out
        simp at hle; omega
      have HH := Lib.hid hst; clear hst hle hx hjl ha'
      go_wp2_with (go_at_call 80; (with_reducible refine (rlength_any x.length _ _ (by omega) (by omega) (by omega)).mono ?_); rintro e w1 ⟨v, rfl, rfl, hb1⟩; simp only [Int.toNat_natCast])
      go_roundw
      case rel => exact ⟨j + 1, b ++ (Pl.lenB x.length ++ x), by omega, by go_num, rfl, hbw.trans (hb1.mono hbw.size), HH.out⟩
      case measure => simp [intOf]; omega
    · go_wp2_with fail
      go_ret
      have h1 := H.out
      rw [List.take_of_length_le (by rw [HL.out]; omega)] at h1
      exact ⟨_, rfl, by rw [h1]; rfl, hbw⟩
end Go.Proofs.YtommlolhpaeioaaDoor
