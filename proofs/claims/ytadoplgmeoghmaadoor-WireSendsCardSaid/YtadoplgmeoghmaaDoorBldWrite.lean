/- What a builder's Write does, of bytes that lie in a block that is neither the builder's nor a row of bytes. -/
import Derived.Test.YtadoplgmeoghmaaDoorShelf
import Derived.Test.YtadoplgmeoghmaaDoorMfMem
import Derived.Lib.FrozenHead2
namespace Go.Proofs.YtadoplgmeoghmaaDoor
open Go.RowKit
set_option linter.unusedVariables false
theorem byC_one' (l : List UInt8) : ∀ v ∈ byC l, v.oneCell' = true := by
  intro v hv; unfold byC at hv; obtain ⟨b, -, rfl⟩ := List.mem_map.1 hv; rfl
set_option maxRecDepth 100000 in
set_option maxHeartbeats 1000000 in
theorem bld_write (B b : Nat) (l news : List UInt8) (g m c : Nat) (C : Array Value) (T : TypeId) (w : World) (h : Bld B b l w) (hg : w.heap[g]? = some (.cells C T (0, 0))) (hT : T ≠ 5) (hgb : g ≠ b) (hm : news.length = m)
    (hC : ∀ (j : Nat) (u : Value), (byC news)[j]? = some u → C[j]? = some u) (hlen : l.length + m ≤ 140737488355328) (hBw : B ≤ w.heap.size) :
    Calls Tryd.prog 40 #[.pointer (some ⟨b, 0, none⟩), .slice (some ⟨g, 0, none⟩) m c] w fun e w' => e = .returned (.tuple #[.int .i64 (m : Int), .nilIface]) ∧ Bld B b (l ++ news) w' ∧ Below B w w' ∧ Kept b w w' := by
  obtain ⟨i0, hi, hz0, hz1, hz2⟩ := info_parts Tryd.bld_x.infoByte
  have HC := Lib.hid hC; clear hC
  have HM := Lib.hid hm; clear hm
  go_enter Tryd.func40, Tryd.ntmps40
  go_wp2_with fail
  refine (Any.Builder_copyCheck_k Tryd.bld_240 Tryd.bld_x.toX72 B b (Lib.byteCells l) _ h).mono ?_
  rintro e w1 ⟨rfl, h1, hb1, hk1⟩
  obtain ⟨hB, v, hbk, hown, hne⟩ := h1
  have c0 : w1.cell? ⟨b, 0, none⟩ = some (.pointer (some ⟨b, 0, none⟩)) := by rw [Lib.cell_of_heap hbk]; rfl
  have c1 : w1.cell? ⟨b, 1, none⟩ = some v := by rw [Lib.cell_of_heap hbk]; rfl
  have hg1 : w1.heap[g]? = some (.cells C T (0, 0)) := hk1 g _ hg (by simpa using hgb) (fun c fz e => by injection e with _ e2; exact hT e2)
  have hnews : ∀ (j : Nat) (u : Value), (byC news)[j]? = some u → w1.cell? ((⟨g, 0, none⟩ : Addr).add j) = some u := fun j u hj => by rw [addr_add, cell_row w1 g (0 + j) C T hg1, Nat.zero_add]; exact HC.out j u hj
  have HN := Lib.hid hnews; clear hnews
  go_wp2_with (at_builtin; refine wpList_append_ownF _ rfl _ _ 71 rfl B 5 i0 (.int .u8 0) 1 1 Tryd.underlying71 hi hz0 hz1 hz2 rfl (by decide) _ _ _ rfl hown ⟨g, 0, none⟩ m c (byC news) rfl (by rw [byC_len, HM.out, Nat.mul_one]) HN.out (byC_one' news) ?c3 ?c4 ?c5 ?_)
  case c3 => unfold maxLen; simp [Lib.byteCells]; omega
  case c4 => simp [Lib.byteCells]; omega
  case c5 => have := hb1.size; omega
  intro v' w2 hown' hgrow _
  have hlt : b < w1.heap.size := blk_lt hbk
  have hb2 : w2.heap[b]? = some (.cells #[.pointer (some ⟨b, 0, none⟩), v] 73 (0, 0)) := by
    rw [hgrow.block b hlt (fun e => hne e.symm)]
    exact hbk
  have d0 : w2.cell? ⟨b, 0, none⟩ = some (.pointer (some ⟨b, 0, none⟩)) := by rw [Lib.cell_of_heap hb2]; rfl
  have d1 : w2.cell? ⟨b, 1, none⟩ = some v := by rw [Lib.cell_of_heap hb2]; rfl
  have f1 : w2.frozen? ⟨b, 1, none⟩ = false := Lib.frozen_of_heap hb2 1
  obtain ⟨ao, n', cap, rfl⟩ : ∃ ao n' cap, v' = .slice ao n' cap := by
    rcases hown'.2 with ⟨hv, _⟩ | ⟨g, cap, cur, fz, hv, _⟩
    · exact ⟨_, _, _, hv⟩
    · exact ⟨_, _, _, hv⟩
  clear hi hz0 hz1 hz2
  go_wp2_with fail
  go_ret2
  have e2 : Lib.byteCells (l ++ news) = Lib.byteCells l ++ byC news := by simp [Lib.byteCells, byC]
  refine ⟨rfl, .inr ?_, ?_, (hk1.grown hgrow (Lib.ownsRowF_kind hown)).setCell ⟨b, 1, none⟩ rfl _⟩
  · rw [e2]
    exact Lib.BuilderAtF.put hB hb2 (bs' := Lib.byteCells l ++ byC news) (by simpa [byC_len, HM.out] using hown') Tryd.bld_x.neB5
  · exact (hb1.grown hgrow (by have := hb1.size; omega) (fun k hk => (hown.lt k hk).1)).setCell (p := ⟨b, 1, none⟩) hB _
end Go.Proofs.YtadoplgmeoghmaaDoor
