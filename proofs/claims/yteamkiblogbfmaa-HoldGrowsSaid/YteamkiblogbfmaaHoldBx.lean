/- A root in a variable's box; what Set leaves of a root's bounds. -/
import Derived.Test.YteamkiblogbfmaaHoldAv
import Derived.Test.YteamkiblogbfmaaHoldAl
namespace Go.Proofs.Yteamkiblogbfmaa
open Go.RowKit
set_option linter.unusedVariables false
set_option linter.unusedSimpArgs false
def rtL (R : Pl.Rt) (s p c : Value) : List Value := [.int .i64 R.n, .int .i64 R.now, s, p, .int .i64 R.p.d, .int .i64 R.p.w, .int .i64 R.p.mo, .int .i64 R.p.y, c]
theorem rtV_L (R : Pl.Rt) (s p c : Value) : rtV R s p c = .agg (rtL R s p c).toArray := rfl
/-- A root's box. -/
structure RBox (W : World) (B : Nat) (R : Pl.Rt) (s p c : Value) (L : List Value) : Prop where
  at_ : W.heap[B]? = some (.cells L.toArray 28 (0, 0))
  l : L = rtL R s p c
  rt : RtAt W R s p c
section
variable {W W' : World} {B : Nat} {R : Pl.Rt} {s p c : Value} {L : List Value}
theorem RBox.lt (h : RBox W B R s p c L) : B < W.heap.size := blk_lt h.at_
theorem RBox.below (h : RBox W B R s p c L) (hb : Below W.heap.size W W') : RBox W' B R s p c L := ⟨(hb.block _ h.lt).trans h.at_, h.l, h.rt.below hb⟩
theorem RBox.val (h : RBox W B R s p c L) : rtV R s p c = .agg L.toArray := by rw [h.l]; rfl
theorem RBox.now (h : RBox W B R s p c L) : W.cell? ⟨B, 1, none⟩ = some (.int .i64 R.now) := by
  have h1 := h.at_
  rw [h.l] at h1
  exact cell_row W _ 1 _ _ h1
theorem RBox.refs (h : RBox W B R s p c L) : W.cell? ⟨B, 2, none⟩ = some s := by
  have h1 := h.at_
  rw [h.l] at h1
  exact cell_row W _ 2 _ _ h1
theorem RBox.range (h : RBox W B R s p c L) : W.rangeAt B 0 L := range_rowd h.at_
theorem RBox.len (h : RBox W B R s p c L) : L.length = 9 := by rw [h.l]; rfl
theorem RBox.info (h : RBox W B R s p c L) : (Try.prog.info? 28).map (·.size) = some L.length := by rw [h.len]; exact info_root
theorem rtL_len (R : Pl.Rt) (s p c : Value) : (rtL R s p c).length = 9 := rfl
theorem rtL_info (hL : L = rtL R s p c) : (Try.prog.info? 28).map (·.size) = some L.toArray.size := by rw [hL]; exact info_root
theorem rtL_one (hL : L = rtL R s p c) (h : RtAt W R s p c) : L.toArray.all (·.oneCell') = true := all_oneCell_toArray (by
  have o1 := h.s.one
  have o2 : p.oneCell' = true := by obtain ⟨sv, -, hp, -⟩ := h.p; exact hp.one
  have o3 := h.c.one
  rw [hL]; intro v hv
  simp only [rtL, List.mem_cons, List.not_mem_nil, or_false] at hv
  rcases hv with rfl | rfl | rfl | rfl | rfl | rfl | rfl | rfl | rfl
  · rfl
  · rfl
  · exact o1
  · exact o2
  · rfl
  · rfl
  · rfl
  · rfl
  · exact o3)
theorem rt_there (W : World) (hL : L = rtL R s p c) : (W.alloc (.cells #[.int .i64 0, .int .i64 0, .slice none 0 0, .slice none 0 0, .int .i64 0, .int .i64 0, .int .i64 0, .int .i64 0, .slice none 0 0] 28)).there W.heap.size 0 L.toArray.size :=
  there_rowd (n := L.toArray.size) (heap_alloc_new W _) (by rw [hL]; exact Nat.le_refl _)
/-- A root is laid into a box just made. -/
theorem rbox_new (hL : L = rtL R s p c) (h : RtAt W R s p c) {W3 : World} (hW : (W.alloc (.cells #[.int .i64 0, .int .i64 0, .slice none 0 0, .slice none 0 0, .int .i64 0, .int .i64 0, .int .i64 0, .int .i64 0, .slice none 0 0] 28)).setCells W.heap.size 0 L = W3) : RBox W3 W.heap.size R s p c L ∧ Below W.heap.size W W3 := by
  have hb : Below W.heap.size W W3 := by rw [← hW]; exact ((Below.refl _ _).alloc (Nat.le_refl _) _).trans (Lib.below_setCells_w (Nat.le_refl _) _ _ _)
  refine ⟨⟨?_, hL, h.below hb⟩, hb⟩
  rw [← hW]
  exact heap_setCells_all (C := rtZ) (heap_alloc_new W _) (by rw [hL]; rfl)
theorem rbox_arg (hL : L = rtL R s p c) (h : RtAt W R s p c) {V : World} (hW : W.alloc (.cells L.toArray 28) = V) : RBox V W.heap.size R s p c L ∧ Below W.heap.size W V := by
  have hb : Below W.heap.size W V := by rw [← hW]; exact (Below.refl _ _).alloc (Nat.le_refl _) _
  exact ⟨⟨by rw [← hW]; exact heap_alloc_new W _, hL, h.below hb⟩, hb⟩
end
theorem hold1_mem {l : List Pl.Rf} {i : Nat} {til : Int} {x : Pl.Rf} (hi : i < l.length) (h : x ∈ Pl.hold1 l i til) : x ∈ l ∨ x = { l.getD i default with til := til } := by
  unfold Pl.hold1 at h
  exact List.mem_or_eq_of_mem_set h
theorem setE_0 {R : Pl.Rt} {m : List UInt8} {n til : Int} (h : Pl.setE R m n til = 0) : Pl.fi R.l m n < R.l.length ∧ R.now < til ∧ (R.l.getD (Pl.fi R.l m n) default).til ≤ til := by
  unfold Pl.setE at h
  split at h
  · cases h
  · split at h
    · cases h
    · split at h
      · cases h
      · omega
theorem RtOk.setR {R : Pl.Rt} (hok : RtOk R) (m : List UInt8) (n til : Int) (ht : -9223372036854775808 ≤ til ∧ til ≤ 9223372036854775807) : RtOk (Pl.setR R m n til) := by
  unfold Pl.setR
  split
  · next h =>
    obtain ⟨h1, -, -⟩ := setE_0 h
    refine ⟨by simp only [hold1_len]; exact hok.l, fun x hx => ?_, hok.now, hok.pk, hok.pl, hok.ch, hok.key⟩
    rcases hold1_mem h1 hx with hx | rfl
    · exact hok.fit x hx
    · have := hok.fit _ (Pl.getD_mem R.l _ h1)
      exact ⟨this.1, this.2.1, ht⟩
  · exact ⟨by decide, by decide, by decide, by decide, by decide, by decide, by decide⟩
theorem setR_len (R : Pl.Rt) (m : List UInt8) (n til : Int) : (Pl.setR R m n til).l.length ≤ R.l.length := by
  unfold Pl.setR
  split
  · simp [hold1_len]
  · exact Nat.zero_le _
end Go.Proofs.Yteamkiblogbfmaa
