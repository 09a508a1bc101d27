/- The walks of num.Put, num.Get and the reference's Put, Get: the lowest bytes of a number, the number of bytes. -/
import Derived.Test.YtmmnkoeajdeldaaGreatDoorBase
import Derived.Test.YtmmnkoeajdeldaaGreatDoorNumPlain
import Derived.Deep.RegionWith
namespace Go.Proofs.YtmmnkoeajdeldaaGreatDoor
open Go.RowKit
attribute [local go_sem] ba_get ba_cut
attribute [local go_sem] cut_all List.drop_zero Nat.sub_zero

theorem conv_bytes (w : World) (b off len cap : Nat) (l : List UInt8) (hl : l.length = len) (h : ∀ j (hj : j < l.length), w.cell? ⟨b, off + j, none⟩ = some (.int .u8 (l[j].toNat : Int))) :
    (convert 59 9 (.slice (some ⟨b, off, none⟩) len cap)).run Tryz.prog w = .ok (.string ⟨l.toArray⟩) w := by
  subst hl
  rw [run_convert_bytes_string w _ _ _ _ _ _ Tryz.underlying59 Tryz.underlying5 Tryz.underlying9]
  have hlc := run_loadCells_list (P := Tryz.prog) w ⟨b, off, none⟩ ((l.map fun c => (c.toNat : Int)).map (Value.int .u8)) (fun j v hv => by
    rw [addr_add]
    simp only [List.map_map, List.getElem?_map] at hv
    rcases Nat.lt_or_ge j l.length with hj | hj
    · rw [List.getElem?_eq_getElem hj] at hv
      simp at hv
      rw [h j hj, ← hv]
    · rw [List.getElem?_eq_none hj] at hv; simp at hv)
  rw [run_bytesToString w ⟨b, off, none⟩ l.length cap (l.map fun c => (c.toNat : Int)) (by simpa using hlc)]
  congr 2
  have : ∀ (l : List UInt8) (s : ByteArray), (l.map fun c => (c.toNat : Int)).foldl (fun r n => r.push (UInt8.ofNat n.toNat)) s = ⟨(s.data.toList ++ l).toArray⟩ := by
    intro l
    induction l with
    | nil => intro s; apply ByteArray.ext; simp
    | cons c l ih =>
      intro s
      simp only [List.map_cons, List.foldl_cons, ih]
      apply ByteArray.ext
      simp
  rw [this]; rfl

/-- What num.Put's array holds behind j rounds. -/
def PutRow (n j : Nat) (cur : Array Value) : Prop := cur.size = 8 ∧ ∀ i, i < j → cur[i]? = some (.int .u8 ((UInt8.ofNat (n / 2 ^ (8 * i))).toNat : Int))
theorem putRow_step (n j : Nat) (cur : Array Value) (h : PutRow n j cur) (hj : j < 8) : PutRow n (j + 1) (cur.setIfInBounds j (.int .u8 ((n : Int) / 2 ^ (8 * j) % 256))) := by
  obtain ⟨h1, h2⟩ := h
  refine ⟨by simp [h1], fun i hi => ?_⟩
  by_cases hij : i = j
  · subst hij
    simp [h1, hj]
  · rw [Array.getElem?_setIfInBounds_ne (by omega)]
    exact h2 i (by omega)
theorem putRow_conv (n k : Nat) (cur : Array Value) (h : PutRow n k cur) (w : World) (m : Nat) (hm : m = k) :
    (convert 59 9 (.slice (some ⟨w.heap.size, 0, none⟩) m 8)).run Tryz.prog (w.alloc (.cells cur 148)) = .ok (.string ⟨(Pl.putB n k).toArray⟩) (w.alloc (.cells cur 148)) := by
  refine conv_bytes _ _ _ _ _ _ (by rw [Pl.putB_len, hm]) fun j hj => ?_
  rw [Pl.putB_len] at hj
  have h3 := h.2 j hj
  have h4 : (Pl.putB n k)[j] = UInt8.ofNat (n / 2 ^ (8 * j)) := by simp [Pl.putB]
  rw [h4, Nat.zero_add]
  simp [go_sem, h3]

set_option maxRecDepth 100000 in
set_option maxHeartbeats 1000000 in
theorem put_mid (n : Nat) (size : Int) (h0 : 0 ≤ size) (h8 : size ≤ 8) (w : World) :
    Calls Tryz.prog 53 #[.int .u64 n, .int .i64 size] w (RetB (fun v _ => v = .string ⟨(Pl.putB n size.toNat).toArray⟩) w) := by
  go_enter Tryz.func53, Tryz.ntmps53
  go_wp2_with fail
  go_loopw [11] (fun i wr => ∃ (j : Nat) (cur : Array Value), j ≤ size.toNat ∧ i = .int .i64 j ∧ wr = w.alloc (.cells cur 148) ∧ Hid (PutRow n j cur)) (fun i _ => 8 - (intOf i).toNat)
  case atStart => exact ⟨0, _, Nat.zero_le _, rfl, rfl, ⟨rfl, fun i hi => absurd hi (by omega)⟩⟩
  case round =>
    obtain ⟨j, cur, hj, rfl, rfl, H⟩ := hrel
    by_cases hlt : (j : Int) < size
    · obtain ⟨x, hx⟩ : ∃ x, cur[j]? = some x := by
        have h1 := H.out.1
        exact ⟨cur[j]'(by omega), Array.getElem?_eq_getElem (by omega)⟩
      have hc : (w.alloc (.cells cur 148)).cell? ⟨w.heap.size, j, none⟩ = some x := by simp [go_sem, hx]
      have HN := Lib.hid (putRow_step n j cur H.out (by omega))
      go_wp2_with fail
      go_roundw
      case rel => exact ⟨j + 1, _, by omega, by go_num, rfl, HN⟩
      case measure => simp [intOf]; omega
    · have hcv := putRow_conv n size.toNat cur (by have h1 := H.out; rwa [show j = size.toNat by omega] at h1) w size.toNat rfl
      go_wp2_with fail
      go_ret
      exact ⟨_, rfl, rfl, (Below.refl _ _).alloc (Nat.le_refl _) _⟩

set_option maxRecDepth 100000 in
set_option maxHeartbeats 1000000 in
theorem put_neg (n : Nat) (size : Int) (hs : size < 0) (w : World) :
    Calls Tryz.prog 53 #[.int .u64 n, .int .i64 size] w (RetB (fun v _ => v = .string ⟨(Pl.putB n 0).toArray⟩) w) := by
  go_enter Tryz.func53, Tryz.ntmps53
  go_wp2_with fail
  go_loopw [11] (fun i wr => ∃ (j : Nat) (cur : Array Value), j ≤ 0 ∧ i = .int .i64 j ∧ wr = w.alloc (.cells cur 148) ∧ Hid (PutRow n j cur)) (fun i _ => 8 - (intOf i).toNat)
  case atStart => exact ⟨0, _, Nat.zero_le _, rfl, rfl, ⟨rfl, fun i hi => absurd hi (by omega)⟩⟩
  case round =>
    obtain ⟨j, cur, hj, rfl, rfl, H⟩ := hrel
    by_cases hlt : j < 0
    · exact absurd hlt (by omega)
    · have hcv := putRow_conv n 0 cur (by have h1 := H.out; rwa [show j = 0 by omega] at h1) w 0 (by omega)
      go_wp2_with fail
      go_ret
      exact ⟨_, rfl, rfl, (Below.refl _ _).alloc (Nat.le_refl _) _⟩

set_option maxRecDepth 100000 in
set_option maxHeartbeats 1000000 in
theorem put_big (n : Nat) (size : Int) (hs : 8 < size) (w : World) :
    Calls Tryz.prog 53 #[.int .u64 n, .int .i64 size] w (RetB (fun v _ => v = .string ⟨(Pl.putB n 8).toArray⟩) w) := by
  go_enter Tryz.func53, Tryz.ntmps53
  go_wp2_with fail
  go_loopw [11] (fun i wr => ∃ (j : Nat) (cur : Array Value), j ≤ 8 ∧ i = .int .i64 j ∧ wr = w.alloc (.cells cur 148) ∧ Hid (PutRow n j cur)) (fun i _ => 8 - (intOf i).toNat)
  case atStart => exact ⟨0, _, Nat.zero_le _, rfl, rfl, ⟨rfl, fun i hi => absurd hi (by omega)⟩⟩
  case round =>
    obtain ⟨j, cur, hj, rfl, rfl, H⟩ := hrel
    by_cases hlt : j < 8
    · obtain ⟨x, hx⟩ : ∃ x, cur[j]? = some x := by
        have h1 := H.out.1
        exact ⟨cur[j]'(by omega), Array.getElem?_eq_getElem (by omega)⟩
      have hc : (w.alloc (.cells cur 148)).cell? ⟨w.heap.size, j, none⟩ = some x := by simp [go_sem, hx]
      have HN := Lib.hid (putRow_step n j cur H.out (by omega))
      go_wp2_with fail
      go_roundw
      case rel => exact ⟨j + 1, _, by omega, by go_num, rfl, HN⟩
      case measure => simp [intOf]; omega
    · have hcv := putRow_conv n 8 cur (by have h1 := H.out; rwa [show j = 8 by omega] at h1) w 8 (by omega)
      go_wp2_with fail
      go_ret
      exact ⟨_, rfl, rfl, (Below.refl _ _).alloc (Nat.le_refl _) _⟩

/-- How many bytes num.Put gives. -/
def putK (size : Int) : Nat := min 8 size.toNat
theorem put_any (n : Nat) (size : Int) (w : World) :
    Calls Tryz.prog 53 #[.int .u64 n, .int .i64 size] w (RetB (fun v _ => v = .string ⟨(Pl.putB n (putK size)).toArray⟩) w) := by
  unfold putK
  by_cases h1 : size < 0
  · rw [show min 8 size.toNat = 0 by omega]; exact put_neg n size h1 w
  · by_cases h2 : 8 < size
    · rw [show min 8 size.toNat = 8 by omega]; exact put_big n size h2 w
    · rw [show min 8 size.toNat = size.toNat by omega]; exact put_mid n size (by omega) (by omega) w

theorem put_int (x : Int) (hx : 0 ≤ x) (size : Int) (w : World) :
    Calls Tryz.prog 53 #[.int .u64 x, .int .i64 size] w (RetB (fun v _ => v = .string ⟨(Pl.putB x.toNat (putK size)).toArray⟩) w) := by
  obtain ⟨n, rfl⟩ := Int.eq_ofNat_of_zero_le hx
  exact put_any n size w
end Go.Proofs.YtmmnkoeajdeldaaGreatDoor
