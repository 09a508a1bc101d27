/- The document's operation of a name (chapter 10). The document's items: what a function gives that ends with a store of ten cells; a line with an error (chapter 11). The document's li and la (chapter 11). The document's four bytes of a number, and where data begin (chapter 11). The document's instruction of its tokens (chapter 11). Printed by genins11.py. -/
import Derived.Test.YtmmnkoeajdeldaaGreatDoorAsX4
import Derived.Test.YtmmnkoeajdeldaaGreatDoorRA11
import Derived.Test.YtmmnkoeajdeldaaGreatDoorIsaR2
import Derived.Test.YtmmnkoeajdeldaaGreatDoorHeldL
namespace Go.Proofs.YtmmnkoeajdeldaaGreatDoor
open Go.RowKit
set_option linter.unusedVariables false
set_option linter.unusedSimpArgs false
attribute [local go_sem] ba_get ba_cut ba_add
def names11V : List Value := Pl.opNs.map fun s => .string ⟨s.toArray⟩
set_option maxRecDepth 100000 in
set_option maxHeartbeats 4000000 in
theorem rnames11_any (w : World) : Calls Tryz.prog 85 #[] w (fun e w' => e = .returned (.slice (some ⟨w.heap.size, 0, none⟩) 31 31) ∧ w' = w.alloc (.cells names11V.toArray 9)) := by
  go_enter Tryz.func85, Tryz.ntmps85
  go_wp2_with fail
  go_ret
  exact ⟨rfl, rfl⟩
set_option maxRecDepth 100000 in
set_option maxHeartbeats 1000000 in
theorem rop10_any (s : List UInt8) (w : World) : Calls Tryz.prog 120 #[.string ⟨s.toArray⟩] w (RetB (fun v _ => v = opV (Pl.opN s)) w) := by
  obtain ⟨R, hR⟩ : ∃ R, Pl.opN s = R := ⟨_, rfl⟩
  rw [hR]
  have HR := Lib.hid hR
  clear hR
  have hn := rnames11_any w
  go_enter Tryz.func120, Tryz.ntmps120
  go_wp2_with fail
  (with_reducible refine hn.mono ?_)
  rintro y w1 ⟨rfl, hw1⟩
  have hb1 : Below w.heap.size w w1 := by rw [hw1]; exact (Below.refl _ _).alloc (Nat.le_refl _) _
  obtain ⟨B, hB⟩ : ∃ B, w.heap.size = B := ⟨_, rfl⟩
  have hz1 : w1.heap[B]? = some (.cells names11V.toArray 9 (0, 0)) := by rw [hw1, ← hB]; exact heap_alloc_new _ _
  rw [hB] at hb1 ⊢
  have H1 := Lib.hid (And.intro hb1 hz1)
  clear hw1 hb1 hz1 hn
  go_wp2_with fail
  go_loopw [5] (fun i wr => ∃ (k : Nat), k ≤ 31 ∧ i = .int .i64 (k : Int) ∧ wr = w1 ∧ Hid (Pl.opF s (Pl.opNs.drop k) (k + 1) = R)) (fun i _ => 31 - (intOf i).toNat)
  case atStart => exact ⟨0, by omega, rfl, rfl, Lib.hid (by rw [List.drop_zero]; exact HR.out)⟩
  case round =>
    obtain ⟨k, hk, rfl, rfl, HK⟩ := hrel
    by_cases hkl : k < 31
    · have hlen : k < Pl.opNs.length := by rw [opNs_len]; exact hkl
      have hc : wr.cell? ⟨B, k, none⟩ = some (.string ⟨(Pl.opNs[k]'hlen).toArray⟩) := by
        rw [cell_row wr B k _ _ H1.out.2]
        simp [names11V, hlen]
      have HK2 := HK.out
      rw [List.drop_eq_getElem_cons hlen, Pl.opF] at HK2
      obtain ⟨n, hn⟩ : ∃ n, Pl.opNs[k]'hlen = n := ⟨_, rfl⟩
      rw [hn] at hc HK2
      clear hn HK hlen
      by_cases hns : n = s
      · rw [if_pos hns] at HK2
        subst hns
        have HN := Lib.hid HK2
        clear HK2
        go_wp2_with fail
        go_ret2
        refine ⟨_, rfl, ?_, by rw [hB]; exact H1.out.1⟩
        rw [← HN.out]
        show Value.tuple #[.int .u8 ((k : Int) + 1), .bool true] = Value.tuple #[.int .u8 ((k + 1 : Nat) : Int), .bool true]
        rw [show ((k + 1 : Nat) : Int) = (k : Int) + 1 by omega]
      · rw [if_neg hns] at HK2
        have e1 : (n == s) = false := beq_eq_false_iff_ne.2 hns
        have HN := Lib.hid HK2
        clear HK2 hns
        go_wp2_with fail
        exact ⟨⟨k + 1, by omega, ret_i (by omega), trivial, Lib.hid HN.out⟩, by simp only [intOf]; omega⟩
    · have hRn : R = none := by rw [← HK.out, List.drop_eq_nil_of_le (by rw [opNs_len]; omega)]; rfl
      have HN := Lib.hid hRn
      clear HK hRn
      go_wp2_with fail
      go_ret2
      refine ⟨_, rfl, ?_, by rw [hB]; exact H1.out.1⟩
      rw [HN.out]
      rfl
end Go.Proofs.YtmmnkoeajdeldaaGreatDoor
namespace Go.Proofs.YtmmnkoeajdeldaaGreatDoor
open Go.RowKit
set_option linter.unusedVariables false
set_option linter.unusedSimpArgs false
attribute [local go_sem] ba_get ba_cut ba_add
theorem info_item : (Tryz.prog.info? 74).map (·.size) = some 10 := by kernel_rfl
theorem info_ins : (Tryz.prog.info? 33).map (·.size) = some 5 := by kernel_rfl
theorem itV_eq (X : Pl.It) : itV X = .agg #[.int .i64 (X.kind : Int), .string ⟨X.name.toArray⟩, .int .u8 (X.x.op : Int), .int .u8 (X.x.a : Int), .int .u8 (X.x.b : Int), .int .u8 (X.x.c : Int), .int .i32 X.x.imm, .int .i64 X.n, .string ⟨X.s.toArray⟩, .int .i64 (X.e : Int)] := rfl
theorem set10_heap {w : World} {B : Nat} {t : TypeId} (h : w.heap[B]? = some (.cells (itC Pl.It.nil).toArray t (0, 0))) (v0 v1 v2 v3 v4 v5 v6 v7 v8 v9 : Value) :
    ((((((((((w.setCell ⟨B, 0, none⟩ v0).setCell ⟨B, 1, none⟩ v1).setCell ⟨B, 2, none⟩ v2).setCell ⟨B, 3, none⟩ v3).setCell ⟨B, 4, none⟩ v4).setCell ⟨B, 5, none⟩ v5).setCell ⟨B, 6, none⟩ v6).setCell ⟨B, 7, none⟩ v7).setCell ⟨B, 8, none⟩ v8).setCell ⟨B, 9, none⟩ v9).heap[B]? = some (.cells #[v0, v1, v2, v3, v4, v5, v6, v7, v8, v9] t (0, 0)) := by
  rw [set_at _ B 9 _ _ _ (set_at _ B 8 _ _ _ (set_at _ B 7 _ _ _ (set_at _ B 6 _ _ _ (set_at _ B 5 _ _ _ (set_at _ B 4 _ _ _ (set_at _ B 3 _ _ _ (set_at _ B 2 _ _ _ (set_at _ B 1 _ _ _ (set_at _ B 0 _ _ _ h)))))))))]
  simp [itC, Pl.It.nil, Pl.Ins.nil]
theorem set10_below {w W : World} {B : Nat} (h : Below B w W) (v0 v1 v2 v3 v4 v5 v6 v7 v8 v9 : Value) :
    Below B w ((((((((((W.setCell ⟨B, 0, none⟩ v0).setCell ⟨B, 1, none⟩ v1).setCell ⟨B, 2, none⟩ v2).setCell ⟨B, 3, none⟩ v3).setCell ⟨B, 4, none⟩ v4).setCell ⟨B, 5, none⟩ v5).setCell ⟨B, 6, none⟩ v6).setCell ⟨B, 7, none⟩ v7).setCell ⟨B, 8, none⟩ v8).setCell ⟨B, 9, none⟩ v9) :=
  (((((((((h.setCell (p := ⟨B, 0, none⟩) (Nat.le_refl _) _).setCell (p := ⟨B, 1, none⟩) (Nat.le_refl _) _).setCell (p := ⟨B, 2, none⟩) (Nat.le_refl _) _).setCell (p := ⟨B, 3, none⟩) (Nat.le_refl _) _).setCell (p := ⟨B, 4, none⟩) (Nat.le_refl _) _).setCell (p := ⟨B, 5, none⟩) (Nat.le_refl _) _).setCell (p := ⟨B, 6, none⟩) (Nat.le_refl _) _).setCell (p := ⟨B, 7, none⟩) (Nat.le_refl _) _).setCell (p := ⟨B, 8, none⟩) (Nat.le_refl _) _).setCell (p := ⟨B, 9, none⟩) (Nat.le_refl _) _
/-- A function's end whose result is the block of an item, stored whole. -/
theorem item_ret {fn : Func} {a : Act} {w W : World} {r B : Nat} (X : Pl.It) (hf : fn.results = #[.cell r 74]) (ha : a.tmps[r]?.getD undef = .pointer (some ⟨B, 0, none⟩)) (hd : a.defers = [])
    (hz : W.heap[B]? = some (.cells (itC Pl.It.nil).toArray 74 (0, 0))) (hb : Below B w W) (hB : w.heap.size = B) :
    bodyPost Tryz.prog fn (RetB (fun v _ => v = itV X) w) .ret a
      ((((((((((W.setCell ⟨B, 0, none⟩ (.int .i64 (X.kind : Int))).setCell ⟨B, 1, none⟩ (.string ⟨X.name.toArray⟩)).setCell ⟨B, 2, none⟩ (.int .u8 (X.x.op : Int))).setCell ⟨B, 3, none⟩ (.int .u8 (X.x.a : Int))).setCell ⟨B, 4, none⟩ (.int .u8 (X.x.b : Int))).setCell ⟨B, 5, none⟩ (.int .u8 (X.x.c : Int))).setCell ⟨B, 6, none⟩ (.int .i32 X.x.imm)).setCell ⟨B, 7, none⟩ (.int .i64 X.n)).setCell ⟨B, 8, none⟩ (.string ⟨X.s.toArray⟩)).setCell ⟨B, 9, none⟩ (.int .i64 (X.e : Int))) :=
  bodyPost_ret (resultsA (cs := itC X) hf ha (rangeA (set10_heap hz _ _ _ _ _ _ _ _ _ _)) Tryz.underlying74 rfl info_item) hd ⟨_, rfl, rfl, by rw [hB]; exact set10_below hb _ _ _ _ _ _ _ _ _ _⟩
/-- The cells of an item's block that holds nothing yet. -/
theorem nil_cells {W : World} {B : Nat} (hz : W.heap[B]? = some (.cells (itC Pl.It.nil).toArray 74 (0, 0))) : (W.cell? ⟨B, 0, none⟩ = some (.int .i64 0) ∧ W.cell? ⟨B, 1, none⟩ = some (.string ⟨#[]⟩) ∧ W.cell? ⟨B, 2, none⟩ = some (.int .u8 0) ∧ W.cell? ⟨B, 3, none⟩ = some (.int .u8 0) ∧ W.cell? ⟨B, 4, none⟩ = some (.int .u8 0) ∧ W.cell? ⟨B, 5, none⟩ = some (.int .u8 0) ∧ W.cell? ⟨B, 6, none⟩ = some (.int .i32 0) ∧ W.cell? ⟨B, 7, none⟩ = some (.int .i64 0) ∧ W.cell? ⟨B, 8, none⟩ = some (.string ⟨#[]⟩) ∧ W.cell? ⟨B, 9, none⟩ = some (.int .i64 0)) ∧ ∀ j, W.frozen? ⟨B, j, none⟩ = false :=
  ⟨⟨by rw [cell_row W B 0 _ _ hz]; rfl, by rw [cell_row W B 1 _ _ hz]; rfl, by rw [cell_row W B 2 _ _ hz]; rfl, by rw [cell_row W B 3 _ _ hz]; rfl, by rw [cell_row W B 4 _ _ hz]; rfl, by rw [cell_row W B 5 _ _ hz]; rfl, by rw [cell_row W B 6 _ _ hz]; rfl, by rw [cell_row W B 7 _ _ hz]; rfl, by rw [cell_row W B 8 _ _ hz]; rfl, by rw [cell_row W B 9 _ _ hz]; rfl⟩, fun j => frozen_of W B j _ _ hz⟩
set_option maxRecDepth 100000 in
theorem rbad_any (e : Nat) (w : World) : Calls Tryz.prog 116 #[.int .i64 (e : Int)] w (RetB (fun v _ => v = itV (Pl.bad e)) w) := by
  go_enter Tryz.func116, Tryz.ntmps116
  go_upto_region 1 with (fail)
  obtain ⟨B, hB⟩ : ∃ B, w.heap.size = B := ⟨_, rfl⟩
  generalize hW : World.alloc w _ = W
  have hz : W.heap[B]? = some (.cells (itC Pl.It.nil).toArray 74 (0, 0)) := by rw [← hW, ← hB]; exact heap_alloc_new _ _
  have hb : Below B w W := by rw [← hW, ← hB]; exact (Below.refl _ _).alloc (Nat.le_refl _) _
  have HZ := Lib.hid (And.intro hz hb)
  obtain ⟨⟨z0, z1, z2, z3, z4, z5, z6, z7, z8, z9⟩, hf⟩ := nil_cells hz
  obtain ⟨f0, f1, f2, f3, f4, f5, f6, f7, f8, f9⟩ := ten hf
  rw [hB]
  clear hf hW hz hb
  go_wp2_with fail
  exact item_ret (Pl.bad e) rfl rfl rfl HZ.out.1 HZ.out.2 hB
end Go.Proofs.YtmmnkoeajdeldaaGreatDoor
namespace Go.Proofs.YtmmnkoeajdeldaaGreatDoor
open Go.RowKit
set_option linter.unusedVariables false
set_option linter.unusedSimpArgs false
attribute [local go_sem] ba_get ba_cut ba_add
theorem set10_below2 {w W : World} {B D : Nat} (h : Below D w W) (hD : D ≤ B) (v0 v1 v2 v3 v4 v5 v6 v7 v8 v9 : Value) :
    Below D w ((((((((((W.setCell ⟨B, 0, none⟩ v0).setCell ⟨B, 1, none⟩ v1).setCell ⟨B, 2, none⟩ v2).setCell ⟨B, 3, none⟩ v3).setCell ⟨B, 4, none⟩ v4).setCell ⟨B, 5, none⟩ v5).setCell ⟨B, 6, none⟩ v6).setCell ⟨B, 7, none⟩ v7).setCell ⟨B, 8, none⟩ v8).setCell ⟨B, 9, none⟩ v9) :=
  (((((((((h.setCell (p := ⟨B, 0, none⟩) hD _).setCell (p := ⟨B, 1, none⟩) hD _).setCell (p := ⟨B, 2, none⟩) hD _).setCell (p := ⟨B, 3, none⟩) hD _).setCell (p := ⟨B, 4, none⟩) hD _).setCell (p := ⟨B, 5, none⟩) hD _).setCell (p := ⟨B, 6, none⟩) hD _).setCell (p := ⟨B, 7, none⟩) hD _).setCell (p := ⟨B, 8, none⟩) hD _).setCell (p := ⟨B, 9, none⟩) hD _
theorem set10_other {w : World} {B D : Nat} (h : D ≠ B) (v0 v1 v2 v3 v4 v5 v6 v7 v8 v9 : Value) :
    ((((((((((w.setCell ⟨B, 0, none⟩ v0).setCell ⟨B, 1, none⟩ v1).setCell ⟨B, 2, none⟩ v2).setCell ⟨B, 3, none⟩ v3).setCell ⟨B, 4, none⟩ v4).setCell ⟨B, 5, none⟩ v5).setCell ⟨B, 6, none⟩ v6).setCell ⟨B, 7, none⟩ v7).setCell ⟨B, 8, none⟩ v8).setCell ⟨B, 9, none⟩ v9).heap[D]? = w.heap[D]? := by
  rw [Below.heap_setCell _ _ _ _ (by exact h), Below.heap_setCell _ _ _ _ (by exact h), Below.heap_setCell _ _ _ _ (by exact h), Below.heap_setCell _ _ _ _ (by exact h), Below.heap_setCell _ _ _ _ (by exact h), Below.heap_setCell _ _ _ _ (by exact h), Below.heap_setCell _ _ _ _ (by exact h), Below.heap_setCell _ _ _ _ (by exact h), Below.heap_setCell _ _ _ _ (by exact h), Below.heap_setCell _ _ _ _ (by exact h)]
/-- The cells of an item's block. -/
theorem it_cells {W : World} {B : Nat} {X : Pl.It} (hz : W.heap[B]? = some (.cells (itC X).toArray 74 (0, 0))) : W.cell? ⟨B, 0, none⟩ = some (.int .i64 (X.kind : Int)) ∧ W.cell? ⟨B, 1, none⟩ = some (.string ⟨X.name.toArray⟩) ∧ W.cell? ⟨B, 2, none⟩ = some (.int .u8 (X.x.op : Int)) ∧ W.cell? ⟨B, 3, none⟩ = some (.int .u8 (X.x.a : Int)) ∧ W.cell? ⟨B, 4, none⟩ = some (.int .u8 (X.x.b : Int)) ∧ W.cell? ⟨B, 5, none⟩ = some (.int .u8 (X.x.c : Int)) ∧ W.cell? ⟨B, 6, none⟩ = some (.int .i32 X.x.imm) ∧ W.cell? ⟨B, 7, none⟩ = some (.int .i64 X.n) ∧ W.cell? ⟨B, 8, none⟩ = some (.string ⟨X.s.toArray⟩) ∧ W.cell? ⟨B, 9, none⟩ = some (.int .i64 (X.e : Int)) :=
  ⟨by rw [cell_row W B 0 _ _ hz]; rfl, by rw [cell_row W B 1 _ _ hz]; rfl, by rw [cell_row W B 2 _ _ hz]; rfl, by rw [cell_row W B 3 _ _ hz]; rfl, by rw [cell_row W B 4 _ _ hz]; rfl, by rw [cell_row W B 5 _ _ hz]; rfl, by rw [cell_row W B 6 _ _ hz]; rfl, by rw [cell_row W B 7 _ _ hz]; rfl, by rw [cell_row W B 8 _ _ hz]; rfl, by rw [cell_row W B 9 _ _ hz]; rfl⟩
/-- A token's cells, from a place of a block on. -/
def TkC (W : World) (b o : Nat) (d : Pl.Dt) : Prop := W.cell? ⟨b, o, none⟩ = some (.int .u8 (d.k : Int)) ∧ W.cell? ⟨b, o + 1, none⟩ = some (.string ⟨d.s.toArray⟩) ∧ W.cell? ⟨b, o + 2, none⟩ = some (.int .i64 d.n) ∧ W.cell? ⟨b, o + 3, none⟩ = some (.bool d.big)
theorem tok_all {w : World} {A : Option Addr} {l : List Pl.Dt} (hr : Rd w 4 A l.length (dtsC l)) (h : 0 < l.length) :
    ∃ b off, A = some ⟨b, off, none⟩ ∧ b < w.heap.size ∧ ∀ W, Below w.heap.size w W → ∀ i, i < l.length → TkC W b (off + i * 4) (Pl.dg l i) := by
  obtain ⟨b, off, hA, hb, hcs⟩ := hr.all h
  refine ⟨b, off, hA, hb, fun W hW i hi => ?_⟩
  have hlen : (dtsC l).length = l.length * 4 := hr.1
  have hc : ∀ j, j < 4 → W.cell? ⟨b, off + i * 4 + j, none⟩ = (dtC l[i])[j]? := fun j hj => by
    have h1 := hcs (i * 4 + j) (by rw [hlen]; omega)
    rw [dts_at l i j hi hj, ← Nat.add_assoc] at h1
    have h2 := hW.block b hb
    unfold World.cell? at h1 ⊢
    rw [h2]
    exact h1
  have hd : Pl.dg l i = l[i] := by unfold Pl.dg; rw [List.getD_eq_getElem?_getD, List.getElem?_eq_getElem hi]; rfl
  rw [hd]
  exact ⟨hc 0 (by omega), hc 1 (by omega), hc 2 (by omega), hc 3 (by omega)⟩
theorem kt_eq (K M : List Nat) (hK : ∀ k ∈ K, k < 256) (hM : ∀ k ∈ M, k < 256) : K.map UInt8.ofNat = M.map UInt8.ofNat ↔ K = M := by
  refine ⟨fun h => ?_, fun h => by rw [h]⟩
  have h2 := congrArg (·.map UInt8.toNat) h
  have e : ∀ L : List Nat, (∀ k ∈ L, k < 256) → (L.map UInt8.ofNat).map UInt8.toNat = L := fun L hL => by
    rw [List.map_map]
    conv => rhs; rw [← List.map_id L]
    exact List.map_congr_left fun k hk => by simpa using hL k hk
  simp only [e K hK, e M hM] at h2
  exact h2
set_option maxRecDepth 100000 in
set_option maxHeartbeats 8000000 in
theorem rpair_any (A : Option Addr) (c : Nat) (l : List Pl.Dt) (w : World) (hr : Rd w 4 A l.length (dtsC l)) (hl0 : 0 < l.length) (hl : l.length ≤ 100000) (hok : ∀ d ∈ l, Pl.DtOk 100000 d) (hs : (Pl.dg l 0).s = Pl.wLi ∨ (Pl.dg l 0).s = Pl.wLa) :
    Calls Tryz.prog 118 #[.slice A l.length c] w (RetB (fun v _ => v = itV (Pl.pairD l)) w) := by
  have hki := fun W hb => rkinds_any A c l W (Rd.below hr hb) hl (fun d hd => (hok d hd).k)
  obtain ⟨b, off, rfl, hbl, hT⟩ := tok_all hr hl0
  obtain ⟨R, hR⟩ : ∃ R, Pl.pairD l = R := ⟨_, rfl⟩
  have hlen : (Pl.dk l).length = l.length := by simp [Pl.dk]
  rw [hR]
  unfold Pl.pairD at hR
  obtain ⟨K, hK⟩ : ∃ K, Pl.dk l = K := ⟨_, rfl⟩
  rw [hK] at hki hR hlen
  have hkk : ∀ k ∈ K, k < 256 := by rw [← hK]; intro k hk; obtain ⟨d, hd, rfl⟩ := List.mem_map.1 hk; exact (hok d hd).k
  have HKK := Lib.hid hkk
  clear hkk
  obtain ⟨n, hn⟩ : ∃ n, l.length = n := ⟨_, rfl⟩
  rw [hn] at hki hlen hT hl hl0 ⊢
  have hdk : ∀ i, Pl.DtOk 100000 (Pl.dg l i) := fun i => by
    unfold Pl.dg
    rw [List.getD_eq_getElem?_getD]
    rcases Nat.lt_or_ge i l.length with h | h
    · rw [List.getElem?_eq_getElem h]; exact hok _ (List.getElem_mem h)
    · rw [List.getElem?_eq_none h]; exact Pl.DtOk.nil _
  have hd1 := hdk 1
  have hreg := fun W => rreg11_any (Pl.dg l 1) W hd1.k hd1.s
  have hfit := fun W => rfits_any (Pl.dg l 3) W
  unfold dtV at hreg hfit
  obtain ⟨d0, hd0⟩ : ∃ d, Pl.dg l 0 = d := ⟨_, rfl⟩
  obtain ⟨d1, hd1e⟩ : ∃ d, Pl.dg l 1 = d := ⟨_, rfl⟩
  obtain ⟨d3, hd3⟩ : ∃ d, Pl.dg l 3 = d := ⟨_, rfl⟩
  rw [hd1e] at hreg
  rw [hd3] at hfit
  rw [hd0, hd1e, hd3] at hR
  obtain ⟨fb, hfb⟩ : ∃ b, Pl.fits32 d3 = b := ⟨_, rfl⟩
  rw [hfb] at hR hfit
  clear hfb
  rw [hd0] at hs
  have h0 : ∀ W, Below w.heap.size w W → TkC W b off d0 := fun W hb => by have h := hT W hb 0 (by omega); rw [hd0, Nat.zero_mul] at h; exact h
  have h1 : 1 < n → ∀ W, Below w.heap.size w W → TkC W b (off + 4) d1 := fun hn W hb => by have h := hT W hb 1 hn; rw [hd1e] at h; exact h
  have h3 : 3 < n → ∀ W, Below w.heap.size w W → TkC W b (off + 12) d3 := fun hn W hb => by have h := hT W hb 3 hn; rw [hd3] at h; exact h
  have HT := Lib.hid (And.intro h0 (And.intro h1 h3))
  have HK := Lib.hid hki
  have HF := Lib.hid (And.intro hreg hfit)
  clear hr hok hT hdk hd1 hd0 hd1e hd3 hki hreg hfit h0 h1 h3 hK hn
  go_enter Tryz.func118, Tryz.ntmps118
  go_upto_region 1 with (fail)
  obtain ⟨B, hB⟩ : ∃ B, w.heap.size = B := ⟨_, rfl⟩
  generalize hW : World.alloc w _ = W
  have hz : W.heap[B]? = some (.cells (itC Pl.It.nil).toArray 74 (0, 0)) := by rw [← hW, ← hB]; exact heap_alloc_new _ _
  have hb : Below w.heap.size w W := by rw [← hW]; exact (Below.refl _ _).alloc (Nat.le_refl _) _
  have HZ := Lib.hid (And.intro hz hb)
  rw [hB]
  clear hW hz hb
  go_wp2_with fail
  (with_reducible refine (HK.out _ HZ.out.2).mono ?_)
  rintro y w1 ⟨v, rfl, rfl, hb1⟩
  have hz1 := (hb1.block B (blk_lt HZ.out.1)).trans HZ.out.1
  have H1 := Lib.hid (And.intro hz1 (HZ.out.2.trans (hb1.mono HZ.out.2.size)))
  obtain ⟨c00, c01, c02, c03⟩ := HT.out.1 w1 H1.out.2
  clear hz1 hb1
  rcases hs with hs | hs
  · rw [hs] at c01 hR
    by_cases hk : K = [119, 119, 44, 110]
    case neg =>
      obtain rfl : R = Pl.bad 3 := by rw [← hR, if_pos (.inl ⟨rfl, hk⟩)]
      have hkt : ¬ K.map UInt8.ofNat = ([119, 119, 44, 110] : List Nat).map UInt8.ofNat := fun h => hk ((kt_eq K _ HKK.out (by decide)).1 h)
      change ¬ K.map UInt8.ofNat = [119, 119, 44, 110] at hkt
      obtain ⟨KT, hKT⟩ : ∃ T, K.map UInt8.ofNat = T := ⟨_, rfl⟩
      rw [hKT] at hkt ⊢
      have ek : (KT != [119, 119, 44, 110]) = true := bne_iff_ne.2 hkt
      have ek2 : (KT == [119, 119, 44, 110]) = false := beq_eq_false_iff_ne.2 hkt
      clear hKT hk hR hs
      simp only [Pl.wLi, Pl.wLa] at c01
      go_wp2_with fail
      refine (rbad_any 3 _).mono ?_
      rintro y wb ⟨v, rfl, rfl, hb9⟩
      rw [itV_eq]
      have hz9 := (hb9.block B (blk_lt H1.out.1)).trans H1.out.1
      have HB9 := Lib.hid (And.intro hz9 (H1.out.2.trans (hb9.mono H1.out.2.size)))
      clear hz9 hb9
      clear c00 c01 c02 c03
      obtain ⟨⟨z0, z1, z2, z3, z4, z5, z6, z7, z8, z9⟩, hf⟩ := nil_cells HB9.out.1
      obtain ⟨f0, f1, f2, f3, f4, f5, f6, f7, f8, f9⟩ := ten hf
      clear hf
      go_wp2_with fail
      exact item_ret (Pl.bad 3) rfl rfl rfl HB9.out.1 (by rw [← hB]; exact HB9.out.2) hB
    subst hk
    have hn4 : 4 = n := hlen
    subst hn4
    have e3 : (([119, 119, 44, 110] : List Nat).map UInt8.ofNat) = [119, 119, 44, 110] := rfl
    rw [e3]
    clear e3 hlen
    simp only [Pl.wLi, Pl.wLa] at c01
    obtain ⟨c10, c11, c12, c13⟩ := HT.out.2.1 (by omega) w1 H1.out.2
    go_wp2_with fail
    (with_reducible refine (HF.out.1 _).mono ?_)
    rintro y w2 ⟨v, rfl, rfl, hb2⟩
    have hz9 := (hb2.block B (blk_lt H1.out.1)).trans H1.out.1
    have H2 := Lib.hid (And.intro hz9 (H1.out.2.trans (hb2.mono H1.out.2.size)))
    clear hz9 hb2
    clear c10 c11 c12 c13
    obtain ⟨r, hr⟩ : ∃ r, Pl.regD d1 = r := ⟨_, rfl⟩
    have HRr := Lib.hid hr
    rw [hr] at HF ⊢
    rw [hr] at hR
    clear hr
    by_cases h15 : 15 < r
    · obtain rfl : R = Pl.bad 3 := by rw [← hR, if_pos (.inr (.inr h15))]
      clear hR
      clear c00 c01 c02 c03
      go_wp2_with fail
      refine (rbad_any 3 _).mono ?_
      rintro y wb ⟨v, rfl, rfl, hb9⟩
      rw [itV_eq]
      have hz9 := (hb9.block B (blk_lt H2.out.1)).trans H2.out.1
      have HB9 := Lib.hid (And.intro hz9 (H2.out.2.trans (hb9.mono H2.out.2.size)))
      clear hz9 hb9
      obtain ⟨⟨z0, z1, z2, z3, z4, z5, z6, z7, z8, z9⟩, hf⟩ := nil_cells HB9.out.1
      obtain ⟨f0, f1, f2, f3, f4, f5, f6, f7, f8, f9⟩ := ten hf
      clear hf
      go_wp2_with fail
      exact item_ret (Pl.bad 3) rfl rfl rfl HB9.out.1 (by rw [← hB]; exact HB9.out.2) hB
    rw [if_neg (by intro h; rcases h with ⟨_, h⟩ | ⟨h, h'⟩ | h; exact h rfl; exact absurd h (by decide); exact h15 h)] at hR
    clear c00 c01 c02 c03
    go_upto_region 4 with (fail)
    have hSS : ∀ W, Below w.heap.size w W → (W.cell? ⟨b, off + 4, none⟩ = some (.int .u8 (d1.k : Int)) ∧ W.cell? ⟨b, off + 4 + 1, none⟩ = some (.string ⟨d1.s.toArray⟩) ∧ W.cell? ⟨b, off + 4 + 2, none⟩ = some (.int .i64 d1.n) ∧ W.cell? ⟨b, off + 4 + 3, none⟩ = some (.bool d1.big) ∧ W.cell? ⟨b, off + 12 + 1, none⟩ = some (.string ⟨d3.s.toArray⟩) ∧ W.cell? ⟨b, off + 12 + 2, none⟩ = some (.int .i64 d3.n)) := fun W hb => by
      obtain ⟨x0, x1, x2, x3⟩ := HT.out.2.1 (by omega) W hb
      obtain ⟨y0, y1, y2, y3⟩ := HT.out.2.2 (by omega) W hb
      exact ⟨x0, x1, x2, x3, y1, y2⟩
    have HSS := Lib.hid hSS
    clear hSS
    refine wp_region_held_drew (S := (fun W => W.cell? ⟨b, off + 4, none⟩ = some (.int .u8 (d1.k : Int)) ∧ W.cell? ⟨b, off + 4 + 1, none⟩ = some (.string ⟨d1.s.toArray⟩) ∧ W.cell? ⟨b, off + 4 + 2, none⟩ = some (.int .i64 d1.n) ∧ W.cell? ⟨b, off + 4 + 3, none⟩ = some (.bool d1.big) ∧ W.cell? ⟨b, off + 12 + 1, none⟩ = some (.string ⟨d3.s.toArray⟩) ∧ W.cell? ⟨b, off + 12 + 2, none⟩ = some (.int .i64 d3.n))) (by kernel_rfl) (by exact HSS.out _ H2.out.2.drew) (fun hHeld => ?_)
    refine wpAnyH_take (i := 0) (v := ?_) rfl (by kernel_rfl) (by kernel_rfl) (by kernel_rfl) (fun _ _ _ h => h) (Or.inl ⟨by kernel_rfl, ?_⟩) hHeld ?_
    rotate_left
    · (intro w' hSw; obtain ⟨hS0, hS1, hS2, hS3, hS4, hS5⟩ := hSw; go_simp; try with_reducible rfl)
    simp only [Act.put, List.setIfInBounds_toArray, List.set_cons_zero, List.set_cons_succ, List.getElem_toArray, List.getElem_cons_succ, List.getElem_cons_zero]
    refine wpAnyH_take (i := 1) (v := ?_) rfl (by kernel_rfl) (by kernel_rfl) (by kernel_rfl) (fun _ _ _ h => h) (Or.inl ⟨by kernel_rfl, ?_⟩) hHeld ?_
    rotate_left
    · (intro w' hSw; obtain ⟨hS0, hS1, hS2, hS3, hS4, hS5⟩ := hSw; go_simp; try with_reducible rfl)
    simp only [Act.put, List.setIfInBounds_toArray, List.set_cons_zero, List.set_cons_succ, List.getElem_toArray, List.getElem_cons_succ, List.getElem_cons_zero]
    refine wpAnyH_take (i := 2) (v := ?_) rfl (by kernel_rfl) (by kernel_rfl) (by kernel_rfl) (fun _ _ _ h => h) (Or.inl ⟨by kernel_rfl, ?_⟩) hHeld ?_
    rotate_left
    · (intro w' hSw; obtain ⟨hS0, hS1, hS2, hS3, hS4, hS5⟩ := hSw; go_simp; try with_reducible rfl)
    simp only [Act.put, List.setIfInBounds_toArray, List.set_cons_zero, List.set_cons_succ, List.getElem_toArray, List.getElem_cons_succ, List.getElem_cons_zero]
    refine wpAnyH_take (i := 5) (v := ?_) rfl (by kernel_rfl) (by kernel_rfl) (by kernel_rfl) (fun _ _ _ h => h) (Or.inl ⟨by kernel_rfl, ?_⟩) hHeld ?_
    rotate_left
    · (intro w' hSw; obtain ⟨hS0, hS1, hS2, hS3, hS4, hS5⟩ := hSw; go_simp; try with_reducible rfl)
    simp only [Act.put, List.setIfInBounds_toArray, List.set_cons_zero, List.set_cons_succ, List.getElem_toArray, List.getElem_cons_succ, List.getElem_cons_zero]
    refine wpAnyH_take (i := 6) (v := ?_) rfl (by kernel_rfl) (by kernel_rfl) (by kernel_rfl) (fun _ _ _ h => h) (Or.inl ⟨by kernel_rfl, ?_⟩) hHeld ?_
    rotate_left
    · (intro w' hSw; obtain ⟨hS0, hS1, hS2, hS3, hS4, hS5⟩ := hSw; go_simp; try with_reducible rfl)
    simp only [Act.put, List.setIfInBounds_toArray, List.set_cons_zero, List.set_cons_succ, List.getElem_toArray, List.getElem_cons_succ, List.getElem_cons_zero]
    refine wpAnyH_take (i := 7) (v := ?_) rfl (by kernel_rfl) (by kernel_rfl) (by kernel_rfl) (fun _ _ _ h => h) (Or.inl ⟨by kernel_rfl, ?_⟩) hHeld ?_
    rotate_left
    · (intro w' hSw; obtain ⟨hS0, hS1, hS2, hS3, hS4, hS5⟩ := hSw; go_simp; try with_reducible rfl)
    simp only [Act.put, List.setIfInBounds_toArray, List.set_cons_zero, List.set_cons_succ, List.getElem_toArray, List.getElem_cons_succ, List.getElem_cons_zero]
    refine wpAnyH_take (i := 8) (v := ?_) rfl (by kernel_rfl) (by kernel_rfl) (by kernel_rfl) (fun _ _ _ h => h) (Or.inl ⟨by kernel_rfl, ?_⟩) hHeld ?_
    rotate_left
    · (intro w' hSw; obtain ⟨hS0, hS1, hS2, hS3, hS4, hS5⟩ := hSw; go_simp; try with_reducible rfl)
    simp only [Act.put, List.setIfInBounds_toArray, List.set_cons_zero, List.set_cons_succ, List.getElem_toArray, List.getElem_cons_succ, List.getElem_cons_zero]
    refine wpAnyH_take (i := 9) (v := ?_) rfl (by kernel_rfl) (by kernel_rfl) (by kernel_rfl) (fun _ _ _ h => h) (Or.inl ⟨by kernel_rfl, ?_⟩) hHeld ?_
    rotate_left
    · (intro w' hSw; obtain ⟨hS0, hS1, hS2, hS3, hS4, hS5⟩ := hSw; go_simp; try with_reducible rfl)
    simp only [Act.put, List.setIfInBounds_toArray, List.set_cons_zero, List.set_cons_succ, List.getElem_toArray, List.getElem_cons_succ, List.getElem_cons_zero]
    refine wpAnyH_take (i := 10) (v := ?_) rfl (by kernel_rfl) (by kernel_rfl) (by kernel_rfl) (fun _ _ _ h => h) (Or.inl ⟨by kernel_rfl, ?_⟩) hHeld ?_
    rotate_left
    · (intro w' hSw; obtain ⟨hS0, hS1, hS2, hS3, hS4, hS5⟩ := hSw; go_simp; try with_reducible rfl)
    simp only [Act.put, List.setIfInBounds_toArray, List.set_cons_zero, List.set_cons_succ, List.getElem_toArray, List.getElem_cons_succ, List.getElem_cons_zero]
    refine wpAnyH_take (i := 11) (v := ?_) rfl (by kernel_rfl) (by kernel_rfl) (by kernel_rfl) (fun _ _ _ h => h) (Or.inl ⟨by kernel_rfl, ?_⟩) hHeld ?_
    rotate_left
    · (intro w' hSw; obtain ⟨hS0, hS1, hS2, hS3, hS4, hS5⟩ := hSw; go_simp; try with_reducible rfl)
    simp only [Act.put, List.setIfInBounds_toArray, List.set_cons_zero, List.set_cons_succ, List.getElem_toArray, List.getElem_cons_succ, List.getElem_cons_zero]
    refine wpAnyH_take (i := 12) (v := ?_) rfl (by kernel_rfl) (by kernel_rfl) (by kernel_rfl) (fun _ _ _ h => h) (Or.inl ⟨by kernel_rfl, ?_⟩) hHeld ?_
    rotate_left
    · (intro w' hSw; obtain ⟨hS0, hS1, hS2, hS3, hS4, hS5⟩ := hSw; go_simp; try with_reducible rfl)
    simp only [Act.put, List.setIfInBounds_toArray, List.set_cons_zero, List.set_cons_succ, List.getElem_toArray, List.getElem_cons_succ, List.getElem_cons_zero]
    have HW2 := Lib.hid (H2.out.2.drew)
    have HWz := Lib.hid (show w2.drew.heap[B]? = some (.cells (itC Pl.It.nil).toArray 74 (0, 0)) from H2.out.1)
    obtain ⟨wd, hwd⟩ : ∃ V, w2.drew = V := ⟨_, rfl⟩
    rw [hwd] at HW2 HWz
    simp only [hwd] at hHeld ⊢
    clear hwd
    refine wpAnyH_ready (rs := [3, 14]) (by kernel_rfl) (by simp) (AllReadyH.cons rfl (fun K hK => ?_) (AllReadyH.cons rfl (fun K hK => ?_) AllReadyH.nil))
    · go_simp
      (with_reducible refine (HF.out.1 _).mono ?_)
      rintro y w3 ⟨v, rfl, rfl, hb3⟩
      have HW3 := Lib.hid (HW2.out.trans (hb3.mono HW2.out.size))
      have HZ3 := Lib.hid ((hb3.block B (blk_lt HWz.out)).trans HWz.out)
      clear hb3
      refine hK.out _ _ (by exact HSS.out _ HW3.out) (fun hHeld => ?_)
      clear hK K
      (try simp only [Act.put, List.setIfInBounds_toArray, List.set_cons_zero, List.set_cons_succ, List.getElem_toArray, List.getElem_cons_succ, List.getElem_cons_zero])
      refine wpAnyH_take (i := 4) (v := ?_) rfl (by kernel_rfl) (by kernel_rfl) (by kernel_rfl) (fun _ _ _ h => h) (Or.inl ⟨by kernel_rfl, ?_⟩) hHeld ?_
      rotate_left
      · (intro w' hSw; obtain ⟨hS0, hS1, hS2, hS3, hS4, hS5⟩ := hSw; go_simp; try with_reducible rfl)
      simp only [Act.put, List.setIfInBounds_toArray, List.set_cons_zero, List.set_cons_succ, List.getElem_toArray, List.getElem_cons_succ, List.getElem_cons_zero]
      refine wpAnyH_take (i := 13) (v := ?_) rfl (by kernel_rfl) (by kernel_rfl) (by kernel_rfl) (fun _ _ _ h => h) (Or.inl ⟨by kernel_rfl, ?_⟩) hHeld ?_
      rotate_left
      · (intro w' hSw; obtain ⟨hS0, hS1, hS2, hS3, hS4, hS5⟩ := hSw; go_simp; try with_reducible rfl)
      simp only [Act.put, List.setIfInBounds_toArray, List.set_cons_zero, List.set_cons_succ, List.getElem_toArray, List.getElem_cons_succ, List.getElem_cons_zero]
      refine wpAnyH_ready (rs := [14]) (by kernel_rfl) (by simp) (AllReadyH.cons rfl (fun K hK => ?_) AllReadyH.nil)
      go_simp
      refine hK.out _ _ (by exact HSS.out _ (HW3.out.alloc HW3.out.size _)) (fun hHeld => ?_)
      clear hK K
      (try simp only [Act.put, List.setIfInBounds_toArray, List.set_cons_zero, List.set_cons_succ, List.getElem_toArray, List.getElem_cons_succ, List.getElem_cons_zero])
      refine wpAnyH_ready (rs := [15]) (by kernel_rfl) (by simp) (AllReadyH.cons rfl (fun K hK => ?_) AllReadyH.nil)
      go_simp
      refine hK.out _ _ (by exact HSS.out _ (HW3.out.alloc HW3.out.size _)) (fun hHeld => ?_)
      clear hK K
      (try simp only [Act.put, List.setIfInBounds_toArray, List.set_cons_zero, List.set_cons_succ, List.getElem_toArray, List.getElem_cons_succ, List.getElem_cons_zero])
      refine wpAnyH_done (by kernel_rfl) ?_ _
      obtain ⟨D, hD⟩ : ∃ D, w3.heap.size = D := ⟨_, rfl⟩
      generalize hV : World.alloc w3 _ = V
      have hzD : V.heap[D]? = some (.cells (itC ⟨3, d3.s, ⟨0, r, 0, 0, 0⟩, d3.n, [], 0⟩).toArray 74 (0, 0)) := by rw [← hV, ← hD]; exact heap_alloc_new _ _
      have hbV : Below w3.heap.size w3 V := by rw [← hV]; exact (Below.refl _ _).alloc (Nat.le_refl _) _
      have HV := Lib.hid (And.intro ((hbV.block B (blk_lt HZ3.out)).trans HZ3.out) (And.intro (HW3.out.trans (hbV.mono HW3.out.size)) hzD))
      rw [hD]
      clear hV hbV hzD hHeld
      obtain ⟨c00, c01, c02, c03⟩ := HT.out.1 V HV.out.2.1
      rw [hs] at c01
      simp only [Pl.wLi, Pl.wLa] at c01
      obtain ⟨c30, c31, c32, c33⟩ := HT.out.2.2 (by omega) V HV.out.2.1
      go_wp2_with fail
      (with_reducible refine (HF.out.2 _).mono ?_)
      rintro y w5 ⟨v, rfl, rfl, hb5⟩
      have H5 := Lib.hid (And.intro ((hb5.block B (blk_lt HV.out.1)).trans HV.out.1) (And.intro (HV.out.2.1.trans (hb5.mono HV.out.2.1.size)) ((hb5.block D (blk_lt HV.out.2.2)).trans HV.out.2.2)))
      clear hb5 c00 c01 c02 c03 c30 c31 c32 c33
      cases fb with
      | false =>
        obtain rfl : R = Pl.bad 2 := by rw [← hR, if_pos (by simp)]
        have H6 := Lib.hid (And.intro H5.out.1 H5.out.2.1)
        clear hR
        go_wp2_with fail
        refine (rbad_any 2 _).mono ?_
        rintro y wb ⟨v, rfl, rfl, hb9⟩
        rw [itV_eq]
        have hz9 := (hb9.block B (blk_lt H6.out.1)).trans H6.out.1
        have HB9 := Lib.hid (And.intro hz9 (H6.out.2.trans (hb9.mono H6.out.2.size)))
        clear hz9 hb9
        obtain ⟨⟨z0, z1, z2, z3, z4, z5, z6, z7, z8, z9⟩, hf⟩ := nil_cells HB9.out.1
        obtain ⟨f0, f1, f2, f3, f4, f5, f6, f7, f8, f9⟩ := ten hf
        clear hf
        go_wp2_with fail
        exact item_ret (Pl.bad 2) rfl rfl rfl HB9.out.1 (by rw [← hB]; exact HB9.out.2) hB
      | true =>
        obtain rfl : R = ⟨3, d3.s, ⟨0, r, 0, 0, 0⟩, d3.n, [], 0⟩ := by rw [← hR, if_neg (by intro h; exact absurd h.2 (by decide))]
        clear hR
        obtain ⟨y0, y1, y2, y3, y4, y5, y6, y7, y8, y9⟩ := it_cells H5.out.2.2
        have H6 := Lib.hid (And.intro H5.out.1 H5.out.2.1)
        obtain ⟨⟨z0, z1, z2, z3, z4, z5, z6, z7, z8, z9⟩, hf⟩ := nil_cells H6.out.1
        obtain ⟨f0, f1, f2, f3, f4, f5, f6, f7, f8, f9⟩ := ten hf
        clear hf
        go_wp2_with fail
        exact item_ret (⟨3, d3.s, ⟨0, r, 0, 0, 0⟩, d3.n, [], 0⟩) rfl rfl rfl H6.out.1 (by rw [← hB]; exact H6.out.2) hB
    · go_simp
      refine hK.out _ _ (by exact HSS.out _ (HW2.out.alloc HW2.out.size _)) (fun hHeld => ?_)
      clear hK K
      (try simp only [Act.put, List.setIfInBounds_toArray, List.set_cons_zero, List.set_cons_succ, List.getElem_toArray, List.getElem_cons_succ, List.getElem_cons_zero])
      obtain ⟨D, hD⟩ : ∃ D, wd.heap.size = D := ⟨_, rfl⟩
      generalize hU : World.alloc wd _ = U at hHeld ⊢
      have hzU : U.heap[D]? = some (.cells (itC Pl.It.nil).toArray 74 (0, 0)) := by rw [← hU, ← hD]; exact heap_alloc_new _ _
      have hbU : Below wd.heap.size wd U := by rw [← hU]; exact (Below.refl _ _).alloc (Nat.le_refl _) _
      have hDw : w.heap.size ≤ D := by rw [← hD]; exact HW2.out.size
      have hDB : B ≠ D := by have := blk_lt HWz.out; omega
      have HU := Lib.hid (And.intro ((hbU.block B (blk_lt HWz.out)).trans HWz.out) (And.intro (HW2.out.trans (hbU.mono HW2.out.size)) hzU))
      simp only [hD]
      clear hU hbU hzU hD
      refine wpAnyH_ready (rs := [3]) (by kernel_rfl) (by simp) (AllReadyH.cons rfl (fun K hK => ?_) AllReadyH.nil)
      go_simp
      (with_reducible refine (HF.out.1 _).mono ?_)
      rintro y w3 ⟨v, rfl, rfl, hb3⟩
      have HW3 := Lib.hid (And.intro ((hb3.block B (blk_lt HU.out.1)).trans HU.out.1) (And.intro (HU.out.2.1.trans (hb3.mono HU.out.2.1.size)) ((hb3.block D (blk_lt HU.out.2.2)).trans HU.out.2.2)))
      clear hb3
      refine hK.out _ _ (by exact HSS.out _ HW3.out.2.1) (fun hHeld => ?_)
      clear hK K
      (try simp only [Act.put, List.setIfInBounds_toArray, List.set_cons_zero, List.set_cons_succ, List.getElem_toArray, List.getElem_cons_succ, List.getElem_cons_zero])
      refine wpAnyH_take (i := 4) (v := ?_) rfl (by kernel_rfl) (by kernel_rfl) (by kernel_rfl) (fun _ _ _ h => h) (Or.inl ⟨by kernel_rfl, ?_⟩) hHeld ?_
      rotate_left
      · (intro w' hSw; obtain ⟨hS0, hS1, hS2, hS3, hS4, hS5⟩ := hSw; go_simp; try with_reducible rfl)
      simp only [Act.put, List.setIfInBounds_toArray, List.set_cons_zero, List.set_cons_succ, List.getElem_toArray, List.getElem_cons_succ, List.getElem_cons_zero]
      refine wpAnyH_take (i := 13) (v := ?_) rfl (by kernel_rfl) (by kernel_rfl) (by kernel_rfl) (fun _ _ _ h => h) (Or.inl ⟨by kernel_rfl, ?_⟩) hHeld ?_
      rotate_left
      · (intro w' hSw; obtain ⟨hS0, hS1, hS2, hS3, hS4, hS5⟩ := hSw; go_simp; try with_reducible rfl)
      simp only [Act.put, List.setIfInBounds_toArray, List.set_cons_zero, List.set_cons_succ, List.getElem_toArray, List.getElem_cons_succ, List.getElem_cons_zero]
      have HWD := Lib.hid (And.intro HW3.out.2.2 trivial)
      obtain ⟨⟨z0, z1, z2, z3, z4, z5, z6, z7, z8, z9⟩, hf⟩ := nil_cells (B := D) HWD.out.1
      obtain ⟨f0, f1, f2, f3, f4, f5, f6, f7, f8, f9⟩ := ten hf
      clear hf
      refine wpAnyH_ready (rs := [15]) (by kernel_rfl) (by simp) (AllReadyH.cons rfl (fun K hK => ?_) AllReadyH.nil)
      go_simp
      refine hK.out _ _ (by exact HSS.out _ (set10_below2 HW3.out.2.1 hDw _ _ _ _ _ _ _ _ _ _)) (fun hHeld => ?_)
      clear hK K
      (try simp only [Act.put, List.setIfInBounds_toArray, List.set_cons_zero, List.set_cons_succ, List.getElem_toArray, List.getElem_cons_succ, List.getElem_cons_zero])
      refine wpAnyH_done (by kernel_rfl) ?_ _
      generalize hV : World.setCell (World.setCell _ _ _) _ _ = V
      have hzD : V.heap[D]? = some (.cells (itC ⟨3, d3.s, ⟨0, r, 0, 0, 0⟩, d3.n, [], 0⟩).toArray 74 (0, 0)) := by rw [← hV]; exact set10_heap HW3.out.2.2 _ _ _ _ _ _ _ _ _ _
      have hbV : Below w.heap.size w V := by rw [← hV]; exact set10_below2 HW3.out.2.1 hDw _ _ _ _ _ _ _ _ _ _
      have hzB : V.heap[B]? = some (.cells (itC Pl.It.nil).toArray 74 (0, 0)) := by rw [← hV, set10_other hDB]; exact HW3.out.1
      have HV := Lib.hid (And.intro hzB (And.intro hbV hzD))
      clear hV hbV hzD hHeld hzB z0 z1 z2 z3 z4 z5 z6 z7 z8 z9 f0 f1 f2 f3 f4 f5 f6 f7 f8 f9 hDB hDw
      obtain ⟨c00, c01, c02, c03⟩ := HT.out.1 V HV.out.2.1
      rw [hs] at c01
      simp only [Pl.wLi, Pl.wLa] at c01
      obtain ⟨c30, c31, c32, c33⟩ := HT.out.2.2 (by omega) V HV.out.2.1
      go_wp2_with fail
      (with_reducible refine (HF.out.2 _).mono ?_)
      rintro y w5 ⟨v, rfl, rfl, hb5⟩
      have H5 := Lib.hid (And.intro ((hb5.block B (blk_lt HV.out.1)).trans HV.out.1) (And.intro (HV.out.2.1.trans (hb5.mono HV.out.2.1.size)) ((hb5.block D (blk_lt HV.out.2.2)).trans HV.out.2.2)))
      clear hb5 c00 c01 c02 c03 c30 c31 c32 c33
      cases fb with
      | false =>
        obtain rfl : R = Pl.bad 2 := by rw [← hR, if_pos (by simp)]
        have H6 := Lib.hid (And.intro H5.out.1 H5.out.2.1)
        clear hR
        go_wp2_with fail
        refine (rbad_any 2 _).mono ?_
        rintro y wb ⟨v, rfl, rfl, hb9⟩
        rw [itV_eq]
        have hz9 := (hb9.block B (blk_lt H6.out.1)).trans H6.out.1
        have HB9 := Lib.hid (And.intro hz9 (H6.out.2.trans (hb9.mono H6.out.2.size)))
        clear hz9 hb9
        obtain ⟨⟨z0, z1, z2, z3, z4, z5, z6, z7, z8, z9⟩, hf⟩ := nil_cells HB9.out.1
        obtain ⟨f0, f1, f2, f3, f4, f5, f6, f7, f8, f9⟩ := ten hf
        clear hf
        go_wp2_with fail
        exact item_ret (Pl.bad 2) rfl rfl rfl HB9.out.1 (by rw [← hB]; exact HB9.out.2) hB
      | true =>
        obtain rfl : R = ⟨3, d3.s, ⟨0, r, 0, 0, 0⟩, d3.n, [], 0⟩ := by rw [← hR, if_neg (by intro h; exact absurd h.2 (by decide))]
        clear hR
        obtain ⟨y0, y1, y2, y3, y4, y5, y6, y7, y8, y9⟩ := it_cells H5.out.2.2
        have H6 := Lib.hid (And.intro H5.out.1 H5.out.2.1)
        obtain ⟨⟨z0, z1, z2, z3, z4, z5, z6, z7, z8, z9⟩, hf⟩ := nil_cells H6.out.1
        obtain ⟨f0, f1, f2, f3, f4, f5, f6, f7, f8, f9⟩ := ten hf
        clear hf
        go_wp2_with fail
        exact item_ret (⟨3, d3.s, ⟨0, r, 0, 0, 0⟩, d3.n, [], 0⟩) rfl rfl rfl H6.out.1 (by rw [← hB]; exact H6.out.2) hB
  · rw [hs] at c01 hR
    by_cases hk : K = [119, 119, 44, 119]
    case neg =>
      obtain rfl : R = Pl.bad 3 := by rw [← hR, if_pos (.inr (.inl ⟨rfl, hk⟩))]
      have hkt : ¬ K.map UInt8.ofNat = ([119, 119, 44, 119] : List Nat).map UInt8.ofNat := fun h => hk ((kt_eq K _ HKK.out (by decide)).1 h)
      change ¬ K.map UInt8.ofNat = [119, 119, 44, 119] at hkt
      obtain ⟨KT, hKT⟩ : ∃ T, K.map UInt8.ofNat = T := ⟨_, rfl⟩
      rw [hKT] at hkt ⊢
      have ek : (KT != [119, 119, 44, 119]) = true := bne_iff_ne.2 hkt
      have ek2 : (KT == [119, 119, 44, 119]) = false := beq_eq_false_iff_ne.2 hkt
      clear hKT hk hR hs
      simp only [Pl.wLi, Pl.wLa] at c01
      go_wp2_with fail
      refine (rbad_any 3 _).mono ?_
      rintro y wb ⟨v, rfl, rfl, hb9⟩
      rw [itV_eq]
      have hz9 := (hb9.block B (blk_lt H1.out.1)).trans H1.out.1
      have HB9 := Lib.hid (And.intro hz9 (H1.out.2.trans (hb9.mono H1.out.2.size)))
      clear hz9 hb9
      clear c00 c01 c02 c03
      obtain ⟨⟨z0, z1, z2, z3, z4, z5, z6, z7, z8, z9⟩, hf⟩ := nil_cells HB9.out.1
      obtain ⟨f0, f1, f2, f3, f4, f5, f6, f7, f8, f9⟩ := ten hf
      clear hf
      go_wp2_with fail
      exact item_ret (Pl.bad 3) rfl rfl rfl HB9.out.1 (by rw [← hB]; exact HB9.out.2) hB
    subst hk
    have hn4 : 4 = n := hlen
    subst hn4
    have e3 : (([119, 119, 44, 119] : List Nat).map UInt8.ofNat) = [119, 119, 44, 119] := rfl
    rw [e3]
    clear e3 hlen
    simp only [Pl.wLi, Pl.wLa] at c01
    obtain ⟨c10, c11, c12, c13⟩ := HT.out.2.1 (by omega) w1 H1.out.2
    go_wp2_with fail
    (with_reducible refine (HF.out.1 _).mono ?_)
    rintro y w2 ⟨v, rfl, rfl, hb2⟩
    have hz9 := (hb2.block B (blk_lt H1.out.1)).trans H1.out.1
    have H2 := Lib.hid (And.intro hz9 (H1.out.2.trans (hb2.mono H1.out.2.size)))
    clear hz9 hb2
    clear c10 c11 c12 c13
    obtain ⟨r, hr⟩ : ∃ r, Pl.regD d1 = r := ⟨_, rfl⟩
    have HRr := Lib.hid hr
    rw [hr] at HF ⊢
    rw [hr] at hR
    clear hr
    by_cases h15 : 15 < r
    · obtain rfl : R = Pl.bad 3 := by rw [← hR, if_pos (.inr (.inr h15))]
      clear hR
      clear c00 c01 c02 c03
      go_wp2_with fail
      refine (rbad_any 3 _).mono ?_
      rintro y wb ⟨v, rfl, rfl, hb9⟩
      rw [itV_eq]
      have hz9 := (hb9.block B (blk_lt H2.out.1)).trans H2.out.1
      have HB9 := Lib.hid (And.intro hz9 (H2.out.2.trans (hb9.mono H2.out.2.size)))
      clear hz9 hb9
      obtain ⟨⟨z0, z1, z2, z3, z4, z5, z6, z7, z8, z9⟩, hf⟩ := nil_cells HB9.out.1
      obtain ⟨f0, f1, f2, f3, f4, f5, f6, f7, f8, f9⟩ := ten hf
      clear hf
      go_wp2_with fail
      exact item_ret (Pl.bad 3) rfl rfl rfl HB9.out.1 (by rw [← hB]; exact HB9.out.2) hB
    rw [if_neg (by intro h; rcases h with ⟨h, h'⟩ | ⟨_, h⟩ | h; exact absurd h (by decide); exact h rfl; exact h15 h)] at hR
    clear c00 c01 c02 c03
    go_upto_region 4 with (fail)
    have hSS : ∀ W, Below w.heap.size w W → (W.cell? ⟨b, off + 4, none⟩ = some (.int .u8 (d1.k : Int)) ∧ W.cell? ⟨b, off + 4 + 1, none⟩ = some (.string ⟨d1.s.toArray⟩) ∧ W.cell? ⟨b, off + 4 + 2, none⟩ = some (.int .i64 d1.n) ∧ W.cell? ⟨b, off + 4 + 3, none⟩ = some (.bool d1.big) ∧ W.cell? ⟨b, off + 12 + 1, none⟩ = some (.string ⟨d3.s.toArray⟩) ∧ W.cell? ⟨b, off + 12 + 2, none⟩ = some (.int .i64 d3.n)) := fun W hb => by
      obtain ⟨x0, x1, x2, x3⟩ := HT.out.2.1 (by omega) W hb
      obtain ⟨y0, y1, y2, y3⟩ := HT.out.2.2 (by omega) W hb
      exact ⟨x0, x1, x2, x3, y1, y2⟩
    have HSS := Lib.hid hSS
    clear hSS
    refine wp_region_held_drew (S := (fun W => W.cell? ⟨b, off + 4, none⟩ = some (.int .u8 (d1.k : Int)) ∧ W.cell? ⟨b, off + 4 + 1, none⟩ = some (.string ⟨d1.s.toArray⟩) ∧ W.cell? ⟨b, off + 4 + 2, none⟩ = some (.int .i64 d1.n) ∧ W.cell? ⟨b, off + 4 + 3, none⟩ = some (.bool d1.big) ∧ W.cell? ⟨b, off + 12 + 1, none⟩ = some (.string ⟨d3.s.toArray⟩) ∧ W.cell? ⟨b, off + 12 + 2, none⟩ = some (.int .i64 d3.n))) (by kernel_rfl) (by exact HSS.out _ H2.out.2.drew) (fun hHeld => ?_)
    refine wpAnyH_take (i := 0) (v := ?_) rfl (by kernel_rfl) (by kernel_rfl) (by kernel_rfl) (fun _ _ _ h => h) (Or.inl ⟨by kernel_rfl, ?_⟩) hHeld ?_
    rotate_left
    · (intro w' hSw; obtain ⟨hS0, hS1, hS2, hS3, hS4, hS5⟩ := hSw; go_simp; try with_reducible rfl)
    simp only [Act.put, List.setIfInBounds_toArray, List.set_cons_zero, List.set_cons_succ, List.getElem_toArray, List.getElem_cons_succ, List.getElem_cons_zero]
    refine wpAnyH_take (i := 1) (v := ?_) rfl (by kernel_rfl) (by kernel_rfl) (by kernel_rfl) (fun _ _ _ h => h) (Or.inl ⟨by kernel_rfl, ?_⟩) hHeld ?_
    rotate_left
    · (intro w' hSw; obtain ⟨hS0, hS1, hS2, hS3, hS4, hS5⟩ := hSw; go_simp; try with_reducible rfl)
    simp only [Act.put, List.setIfInBounds_toArray, List.set_cons_zero, List.set_cons_succ, List.getElem_toArray, List.getElem_cons_succ, List.getElem_cons_zero]
    refine wpAnyH_take (i := 2) (v := ?_) rfl (by kernel_rfl) (by kernel_rfl) (by kernel_rfl) (fun _ _ _ h => h) (Or.inl ⟨by kernel_rfl, ?_⟩) hHeld ?_
    rotate_left
    · (intro w' hSw; obtain ⟨hS0, hS1, hS2, hS3, hS4, hS5⟩ := hSw; go_simp; try with_reducible rfl)
    simp only [Act.put, List.setIfInBounds_toArray, List.set_cons_zero, List.set_cons_succ, List.getElem_toArray, List.getElem_cons_succ, List.getElem_cons_zero]
    refine wpAnyH_take (i := 5) (v := ?_) rfl (by kernel_rfl) (by kernel_rfl) (by kernel_rfl) (fun _ _ _ h => h) (Or.inl ⟨by kernel_rfl, ?_⟩) hHeld ?_
    rotate_left
    · (intro w' hSw; obtain ⟨hS0, hS1, hS2, hS3, hS4, hS5⟩ := hSw; go_simp; try with_reducible rfl)
    simp only [Act.put, List.setIfInBounds_toArray, List.set_cons_zero, List.set_cons_succ, List.getElem_toArray, List.getElem_cons_succ, List.getElem_cons_zero]
    refine wpAnyH_take (i := 6) (v := ?_) rfl (by kernel_rfl) (by kernel_rfl) (by kernel_rfl) (fun _ _ _ h => h) (Or.inl ⟨by kernel_rfl, ?_⟩) hHeld ?_
    rotate_left
    · (intro w' hSw; obtain ⟨hS0, hS1, hS2, hS3, hS4, hS5⟩ := hSw; go_simp; try with_reducible rfl)
    simp only [Act.put, List.setIfInBounds_toArray, List.set_cons_zero, List.set_cons_succ, List.getElem_toArray, List.getElem_cons_succ, List.getElem_cons_zero]
    refine wpAnyH_take (i := 7) (v := ?_) rfl (by kernel_rfl) (by kernel_rfl) (by kernel_rfl) (fun _ _ _ h => h) (Or.inl ⟨by kernel_rfl, ?_⟩) hHeld ?_
    rotate_left
    · (intro w' hSw; obtain ⟨hS0, hS1, hS2, hS3, hS4, hS5⟩ := hSw; go_simp; try with_reducible rfl)
    simp only [Act.put, List.setIfInBounds_toArray, List.set_cons_zero, List.set_cons_succ, List.getElem_toArray, List.getElem_cons_succ, List.getElem_cons_zero]
    refine wpAnyH_take (i := 8) (v := ?_) rfl (by kernel_rfl) (by kernel_rfl) (by kernel_rfl) (fun _ _ _ h => h) (Or.inl ⟨by kernel_rfl, ?_⟩) hHeld ?_
    rotate_left
    · (intro w' hSw; obtain ⟨hS0, hS1, hS2, hS3, hS4, hS5⟩ := hSw; go_simp; try with_reducible rfl)
    simp only [Act.put, List.setIfInBounds_toArray, List.set_cons_zero, List.set_cons_succ, List.getElem_toArray, List.getElem_cons_succ, List.getElem_cons_zero]
    refine wpAnyH_take (i := 9) (v := ?_) rfl (by kernel_rfl) (by kernel_rfl) (by kernel_rfl) (fun _ _ _ h => h) (Or.inl ⟨by kernel_rfl, ?_⟩) hHeld ?_
    rotate_left
    · (intro w' hSw; obtain ⟨hS0, hS1, hS2, hS3, hS4, hS5⟩ := hSw; go_simp; try with_reducible rfl)
    simp only [Act.put, List.setIfInBounds_toArray, List.set_cons_zero, List.set_cons_succ, List.getElem_toArray, List.getElem_cons_succ, List.getElem_cons_zero]
    refine wpAnyH_take (i := 10) (v := ?_) rfl (by kernel_rfl) (by kernel_rfl) (by kernel_rfl) (fun _ _ _ h => h) (Or.inl ⟨by kernel_rfl, ?_⟩) hHeld ?_
    rotate_left
    · (intro w' hSw; obtain ⟨hS0, hS1, hS2, hS3, hS4, hS5⟩ := hSw; go_simp; try with_reducible rfl)
    simp only [Act.put, List.setIfInBounds_toArray, List.set_cons_zero, List.set_cons_succ, List.getElem_toArray, List.getElem_cons_succ, List.getElem_cons_zero]
    refine wpAnyH_take (i := 11) (v := ?_) rfl (by kernel_rfl) (by kernel_rfl) (by kernel_rfl) (fun _ _ _ h => h) (Or.inl ⟨by kernel_rfl, ?_⟩) hHeld ?_
    rotate_left
    · (intro w' hSw; obtain ⟨hS0, hS1, hS2, hS3, hS4, hS5⟩ := hSw; go_simp; try with_reducible rfl)
    simp only [Act.put, List.setIfInBounds_toArray, List.set_cons_zero, List.set_cons_succ, List.getElem_toArray, List.getElem_cons_succ, List.getElem_cons_zero]
    refine wpAnyH_take (i := 12) (v := ?_) rfl (by kernel_rfl) (by kernel_rfl) (by kernel_rfl) (fun _ _ _ h => h) (Or.inl ⟨by kernel_rfl, ?_⟩) hHeld ?_
    rotate_left
    · (intro w' hSw; obtain ⟨hS0, hS1, hS2, hS3, hS4, hS5⟩ := hSw; go_simp; try with_reducible rfl)
    simp only [Act.put, List.setIfInBounds_toArray, List.set_cons_zero, List.set_cons_succ, List.getElem_toArray, List.getElem_cons_succ, List.getElem_cons_zero]
    have HW2 := Lib.hid (H2.out.2.drew)
    have HWz := Lib.hid (show w2.drew.heap[B]? = some (.cells (itC Pl.It.nil).toArray 74 (0, 0)) from H2.out.1)
    obtain ⟨wd, hwd⟩ : ∃ V, w2.drew = V := ⟨_, rfl⟩
    rw [hwd] at HW2 HWz
    simp only [hwd] at hHeld ⊢
    clear hwd
    refine wpAnyH_ready (rs := [3, 14]) (by kernel_rfl) (by simp) (AllReadyH.cons rfl (fun K hK => ?_) (AllReadyH.cons rfl (fun K hK => ?_) AllReadyH.nil))
    · go_simp
      (with_reducible refine (HF.out.1 _).mono ?_)
      rintro y w3 ⟨v, rfl, rfl, hb3⟩
      have HW3 := Lib.hid (HW2.out.trans (hb3.mono HW2.out.size))
      have HZ3 := Lib.hid ((hb3.block B (blk_lt HWz.out)).trans HWz.out)
      clear hb3
      refine hK.out _ _ (by exact HSS.out _ HW3.out) (fun hHeld => ?_)
      clear hK K
      (try simp only [Act.put, List.setIfInBounds_toArray, List.set_cons_zero, List.set_cons_succ, List.getElem_toArray, List.getElem_cons_succ, List.getElem_cons_zero])
      refine wpAnyH_take (i := 4) (v := ?_) rfl (by kernel_rfl) (by kernel_rfl) (by kernel_rfl) (fun _ _ _ h => h) (Or.inl ⟨by kernel_rfl, ?_⟩) hHeld ?_
      rotate_left
      · (intro w' hSw; obtain ⟨hS0, hS1, hS2, hS3, hS4, hS5⟩ := hSw; go_simp; try with_reducible rfl)
      simp only [Act.put, List.setIfInBounds_toArray, List.set_cons_zero, List.set_cons_succ, List.getElem_toArray, List.getElem_cons_succ, List.getElem_cons_zero]
      refine wpAnyH_take (i := 13) (v := ?_) rfl (by kernel_rfl) (by kernel_rfl) (by kernel_rfl) (fun _ _ _ h => h) (Or.inl ⟨by kernel_rfl, ?_⟩) hHeld ?_
      rotate_left
      · (intro w' hSw; obtain ⟨hS0, hS1, hS2, hS3, hS4, hS5⟩ := hSw; go_simp; try with_reducible rfl)
      simp only [Act.put, List.setIfInBounds_toArray, List.set_cons_zero, List.set_cons_succ, List.getElem_toArray, List.getElem_cons_succ, List.getElem_cons_zero]
      refine wpAnyH_ready (rs := [14]) (by kernel_rfl) (by simp) (AllReadyH.cons rfl (fun K hK => ?_) AllReadyH.nil)
      go_simp
      refine hK.out _ _ (by exact HSS.out _ (HW3.out.alloc HW3.out.size _)) (fun hHeld => ?_)
      clear hK K
      (try simp only [Act.put, List.setIfInBounds_toArray, List.set_cons_zero, List.set_cons_succ, List.getElem_toArray, List.getElem_cons_succ, List.getElem_cons_zero])
      refine wpAnyH_ready (rs := [15]) (by kernel_rfl) (by simp) (AllReadyH.cons rfl (fun K hK => ?_) AllReadyH.nil)
      go_simp
      refine hK.out _ _ (by exact HSS.out _ (HW3.out.alloc HW3.out.size _)) (fun hHeld => ?_)
      clear hK K
      (try simp only [Act.put, List.setIfInBounds_toArray, List.set_cons_zero, List.set_cons_succ, List.getElem_toArray, List.getElem_cons_succ, List.getElem_cons_zero])
      refine wpAnyH_done (by kernel_rfl) ?_ _
      obtain ⟨D, hD⟩ : ∃ D, w3.heap.size = D := ⟨_, rfl⟩
      generalize hV : World.alloc w3 _ = V
      have hzD : V.heap[D]? = some (.cells (itC ⟨3, d3.s, ⟨0, r, 0, 0, 0⟩, d3.n, [], 0⟩).toArray 74 (0, 0)) := by rw [← hV, ← hD]; exact heap_alloc_new _ _
      have hbV : Below w3.heap.size w3 V := by rw [← hV]; exact (Below.refl _ _).alloc (Nat.le_refl _) _
      have HV := Lib.hid (And.intro ((hbV.block B (blk_lt HZ3.out)).trans HZ3.out) (And.intro (HW3.out.trans (hbV.mono HW3.out.size)) hzD))
      rw [hD]
      clear hV hbV hzD hHeld
      obtain ⟨c00, c01, c02, c03⟩ := HT.out.1 V HV.out.2.1
      rw [hs] at c01
      simp only [Pl.wLi, Pl.wLa] at c01
      obtain rfl : R = ⟨3, d3.s, ⟨0, r, 0, 0, 0⟩, d3.n, [], 0⟩ := by rw [← hR, if_neg (by intro h; exact absurd h.1 (by decide))]
      clear hR
      obtain ⟨y0, y1, y2, y3, y4, y5, y6, y7, y8, y9⟩ := it_cells HV.out.2.2
      have H6 := Lib.hid (And.intro HV.out.1 HV.out.2.1)
      obtain ⟨⟨z0, z1, z2, z3, z4, z5, z6, z7, z8, z9⟩, hf⟩ := nil_cells H6.out.1
      obtain ⟨f0, f1, f2, f3, f4, f5, f6, f7, f8, f9⟩ := ten hf
      clear hf
      go_wp2_with fail
      exact item_ret (⟨3, d3.s, ⟨0, r, 0, 0, 0⟩, d3.n, [], 0⟩) rfl rfl rfl H6.out.1 (by rw [← hB]; exact H6.out.2) hB
    · go_simp
      refine hK.out _ _ (by exact HSS.out _ (HW2.out.alloc HW2.out.size _)) (fun hHeld => ?_)
      clear hK K
      (try simp only [Act.put, List.setIfInBounds_toArray, List.set_cons_zero, List.set_cons_succ, List.getElem_toArray, List.getElem_cons_succ, List.getElem_cons_zero])
      obtain ⟨D, hD⟩ : ∃ D, wd.heap.size = D := ⟨_, rfl⟩
      generalize hU : World.alloc wd _ = U at hHeld ⊢
      have hzU : U.heap[D]? = some (.cells (itC Pl.It.nil).toArray 74 (0, 0)) := by rw [← hU, ← hD]; exact heap_alloc_new _ _
      have hbU : Below wd.heap.size wd U := by rw [← hU]; exact (Below.refl _ _).alloc (Nat.le_refl _) _
      have hDw : w.heap.size ≤ D := by rw [← hD]; exact HW2.out.size
      have hDB : B ≠ D := by have := blk_lt HWz.out; omega
      have HU := Lib.hid (And.intro ((hbU.block B (blk_lt HWz.out)).trans HWz.out) (And.intro (HW2.out.trans (hbU.mono HW2.out.size)) hzU))
      simp only [hD]
      clear hU hbU hzU hD
      refine wpAnyH_ready (rs := [3]) (by kernel_rfl) (by simp) (AllReadyH.cons rfl (fun K hK => ?_) AllReadyH.nil)
      go_simp
      (with_reducible refine (HF.out.1 _).mono ?_)
      rintro y w3 ⟨v, rfl, rfl, hb3⟩
      have HW3 := Lib.hid (And.intro ((hb3.block B (blk_lt HU.out.1)).trans HU.out.1) (And.intro (HU.out.2.1.trans (hb3.mono HU.out.2.1.size)) ((hb3.block D (blk_lt HU.out.2.2)).trans HU.out.2.2)))
      clear hb3
      refine hK.out _ _ (by exact HSS.out _ HW3.out.2.1) (fun hHeld => ?_)
      clear hK K
      (try simp only [Act.put, List.setIfInBounds_toArray, List.set_cons_zero, List.set_cons_succ, List.getElem_toArray, List.getElem_cons_succ, List.getElem_cons_zero])
      refine wpAnyH_take (i := 4) (v := ?_) rfl (by kernel_rfl) (by kernel_rfl) (by kernel_rfl) (fun _ _ _ h => h) (Or.inl ⟨by kernel_rfl, ?_⟩) hHeld ?_
      rotate_left
      · (intro w' hSw; obtain ⟨hS0, hS1, hS2, hS3, hS4, hS5⟩ := hSw; go_simp; try with_reducible rfl)
      simp only [Act.put, List.setIfInBounds_toArray, List.set_cons_zero, List.set_cons_succ, List.getElem_toArray, List.getElem_cons_succ, List.getElem_cons_zero]
      refine wpAnyH_take (i := 13) (v := ?_) rfl (by kernel_rfl) (by kernel_rfl) (by kernel_rfl) (fun _ _ _ h => h) (Or.inl ⟨by kernel_rfl, ?_⟩) hHeld ?_
      rotate_left
      · (intro w' hSw; obtain ⟨hS0, hS1, hS2, hS3, hS4, hS5⟩ := hSw; go_simp; try with_reducible rfl)
      simp only [Act.put, List.setIfInBounds_toArray, List.set_cons_zero, List.set_cons_succ, List.getElem_toArray, List.getElem_cons_succ, List.getElem_cons_zero]
      have HWD := Lib.hid (And.intro HW3.out.2.2 trivial)
      obtain ⟨⟨z0, z1, z2, z3, z4, z5, z6, z7, z8, z9⟩, hf⟩ := nil_cells (B := D) HWD.out.1
      obtain ⟨f0, f1, f2, f3, f4, f5, f6, f7, f8, f9⟩ := ten hf
      clear hf
      refine wpAnyH_ready (rs := [15]) (by kernel_rfl) (by simp) (AllReadyH.cons rfl (fun K hK => ?_) AllReadyH.nil)
      go_simp
      refine hK.out _ _ (by exact HSS.out _ (set10_below2 HW3.out.2.1 hDw _ _ _ _ _ _ _ _ _ _)) (fun hHeld => ?_)
      clear hK K
      (try simp only [Act.put, List.setIfInBounds_toArray, List.set_cons_zero, List.set_cons_succ, List.getElem_toArray, List.getElem_cons_succ, List.getElem_cons_zero])
      refine wpAnyH_done (by kernel_rfl) ?_ _
      generalize hV : World.setCell (World.setCell _ _ _) _ _ = V
      have hzD : V.heap[D]? = some (.cells (itC ⟨3, d3.s, ⟨0, r, 0, 0, 0⟩, d3.n, [], 0⟩).toArray 74 (0, 0)) := by rw [← hV]; exact set10_heap HW3.out.2.2 _ _ _ _ _ _ _ _ _ _
      have hbV : Below w.heap.size w V := by rw [← hV]; exact set10_below2 HW3.out.2.1 hDw _ _ _ _ _ _ _ _ _ _
      have hzB : V.heap[B]? = some (.cells (itC Pl.It.nil).toArray 74 (0, 0)) := by rw [← hV, set10_other hDB]; exact HW3.out.1
      have HV := Lib.hid (And.intro hzB (And.intro hbV hzD))
      clear hV hbV hzD hHeld hzB z0 z1 z2 z3 z4 z5 z6 z7 z8 z9 f0 f1 f2 f3 f4 f5 f6 f7 f8 f9 hDB hDw
      obtain ⟨c00, c01, c02, c03⟩ := HT.out.1 V HV.out.2.1
      rw [hs] at c01
      simp only [Pl.wLi, Pl.wLa] at c01
      obtain rfl : R = ⟨3, d3.s, ⟨0, r, 0, 0, 0⟩, d3.n, [], 0⟩ := by rw [← hR, if_neg (by intro h; exact absurd h.1 (by decide))]
      clear hR
      obtain ⟨y0, y1, y2, y3, y4, y5, y6, y7, y8, y9⟩ := it_cells HV.out.2.2
      have H6 := Lib.hid (And.intro HV.out.1 HV.out.2.1)
      obtain ⟨⟨z0, z1, z2, z3, z4, z5, z6, z7, z8, z9⟩, hf⟩ := nil_cells H6.out.1
      obtain ⟨f0, f1, f2, f3, f4, f5, f6, f7, f8, f9⟩ := ten hf
      clear hf
      go_wp2_with fail
      exact item_ret (⟨3, d3.s, ⟨0, r, 0, 0, 0⟩, d3.n, [], 0⟩) rfl rfl rfl H6.out.1 (by rw [← hB]; exact H6.out.2) hB
end Go.Proofs.YtmmnkoeajdeldaaGreatDoor
namespace Go.Proofs.YtmmnkoeajdeldaaGreatDoor
open Go.RowKit
set_option linter.unusedVariables false
set_option linter.unusedSimpArgs false
attribute [local go_sem] ba_get ba_cut ba_add
set_option maxRecDepth 100000 in
theorem four11_any (n : Nat) (v : Int) (hv : v = (n : Int)) (w : World) (h : n ≤ 4611686018427387000) : Calls Tryz.prog 46 #[.int .i64 v] w (Ret (.int .i64 (Pl.up n 4 : Nat)) w) := by
  subst hv
  have h1 : IntKind.i64.wrap ((n : Int) + 3) = (n : Int) + 3 := IntWalk.i64_in _ (by omega)
  have h2 : IntKind.i64.wrap (((n : Int) + 3) / 4 * 4) = ((n : Int) + 3) / 4 * 4 := IntWalk.i64_in _ (by omega)
  have h3 : ((Pl.up n 4 : Nat) : Int) = ((n : Int) + 3) / 4 * 4 := by unfold Pl.up; omega
  have h4 : IntKind.i64.wrap (((n : Int) + 3) / 4) = ((n : Int) + 3) / 4 := IntWalk.i64_in _ (by omega)
  have h5 : ((n : Int) + 3).tdiv 4 = ((n : Int) + 3) / 4 := Int.tdiv_eq_ediv_of_nonneg (by omega)
  rw [h3]
  go_enter Tryz.func46, Tryz.ntmps46
  go_wp2_with fail
  go_ret
  exact ⟨rfl, rfl⟩
set_option maxRecDepth 100000 in
set_option maxHeartbeats 1000000 in
theorem rbytes32_any (n : Int) (w : World) : Calls Tryz.prog 77 #[.int .i64 n] w (RetB (fun v _ => v = .string ⟨(Pl.putB (Pl.u32N n) 4).toArray⟩) w) := by
  obtain ⟨m, hm⟩ : ∃ m, Pl.u32N n = m := ⟨_, rfl⟩
  have hw : IntKind.u32.wrap n = (m : Int) := by rw [← hm]; unfold Pl.u32N; rw [IntKind.wrap_u32]; omega
  have hm2 : m < 4294967296 := by rw [← hm]; unfold Pl.u32N; omega
  rw [hm]
  clear hm
  have hcv : (convert 59 9 (.slice (some ⟨w.heap.size, 0, none⟩) 4 4)).run Tryz.prog (w.alloc (.cells #[.int .u8 ((m : Int) % 256), .int .u8 ((m : Int) / 256 % 256), .int .u8 ((m : Int) / 65536 % 256), .int .u8 ((m : Int) / 16777216)] 5)) = .ok (.string ⟨(Pl.putB m 4).toArray⟩) (w.alloc (.cells #[.int .u8 ((m : Int) % 256), .int .u8 ((m : Int) / 256 % 256), .int .u8 ((m : Int) / 65536 % 256), .int .u8 ((m : Int) / 16777216)] 5)) := by
    have hpb : ([.int .u8 ((m : Int) % 256), .int .u8 ((m : Int) / 256 % 256), .int .u8 ((m : Int) / 65536 % 256), .int .u8 ((m : Int) / 16777216)] : List Value) = u8C (Pl.putB m 4) := by
      have h1 : (UInt8.ofNat m).toNat = m % 256 := by simp
      have h2 : (UInt8.ofNat (m / 256)).toNat = m / 256 % 256 := by simp
      have h3 : (UInt8.ofNat (m / 65536)).toNat = m / 65536 % 256 := by simp
      have h4 : (UInt8.ofNat (m / 16777216)).toNat = m / 16777216 := by simp; omega
      have hp : Pl.putB m 4 = [UInt8.ofNat m, UInt8.ofNat (m / 256), UInt8.ofNat (m / 65536), UInt8.ofNat (m / 16777216)] := by simp [Pl.putB, List.range, List.range.loop]
      rw [hp]
      simp only [u8C, List.map_cons, List.map_nil, h1, h2, h3, h4]
      rfl
    have hl4 : (Pl.putB m 4).length = 4 := by simp [Pl.putB]
    refine bytes_conv _ w.heap.size 0 4 4 (Pl.putB m 4) hl4 fun j hj => ?_
    rw [Nat.zero_add, cell_row _ w.heap.size j _ _ (heap_alloc_new _ _), ← Array.getElem?_toList]
    show ([.int .u8 ((m : Int) % 256), .int .u8 ((m : Int) / 256 % 256), .int .u8 ((m : Int) / 65536 % 256), .int .u8 ((m : Int) / 16777216)] : List Value)[j]? = _
    rw [hpb]
    simp [u8C, hj]
  go_enter Tryz.func77, Tryz.ntmps77
  go_wp2_with fail
  go_ret
  exact ⟨_, rfl, rfl, (Below.refl _ _).alloc (Nat.le_refl _) _⟩
/-- The cells of items, one behind the other. -/
def itsC (l : List Pl.It) : List Value := l.flatMap itC
theorem its_at (l : List Pl.It) (i j : Nat) (h : i < l.length) (hj : j < 10) : (itsC l)[i * 10 + j]? = (itC l[i])[j]? := by
  induction l generalizing i with
  | nil => simp at h
  | cons d r ih =>
    have e : itsC (d :: r) = itC d ++ itsC r := rfl
    rw [e]
    cases i with
    | zero =>
      rw [Nat.zero_mul, Nat.zero_add, List.getElem?_append_left (by simpa [itC] using hj)]
      rfl
    | succ i =>
      have := ih i (by simpa using h)
      rw [List.getElem?_append_right (by simp [itC]; omega)]
      rw [show (i + 1) * 10 + j - (itC d).length = i * 10 + j by simp [itC]; omega]
      exact this
/-- An item's cells, from a place of a block on. -/
def ItC (W : World) (b o : Nat) (x : Pl.It) : Prop := W.cell? ⟨b, o, none⟩ = some (.int .i64 (x.kind : Int)) ∧ W.cell? ⟨b, o + 1, none⟩ = some (.string ⟨x.name.toArray⟩) ∧ W.cell? ⟨b, o + 2, none⟩ = some (.int .u8 (x.x.op : Int)) ∧ W.cell? ⟨b, o + 3, none⟩ = some (.int .u8 (x.x.a : Int)) ∧ W.cell? ⟨b, o + 4, none⟩ = some (.int .u8 (x.x.b : Int)) ∧ W.cell? ⟨b, o + 5, none⟩ = some (.int .u8 (x.x.c : Int)) ∧ W.cell? ⟨b, o + 6, none⟩ = some (.int .i32 x.x.imm) ∧ W.cell? ⟨b, o + 7, none⟩ = some (.int .i64 x.n) ∧ W.cell? ⟨b, o + 8, none⟩ = some (.string ⟨x.s.toArray⟩) ∧ W.cell? ⟨b, o + 9, none⟩ = some (.int .i64 (x.e : Int))
theorem its_all {w : World} {A : Option Addr} {l : List Pl.It} (hr : Rd w 10 A l.length (itsC l)) (h : 0 < l.length) :
    ∃ b off, A = some ⟨b, off, none⟩ ∧ b < w.heap.size ∧ ∀ W, Below w.heap.size w W → ∀ i (hi : i < l.length), ItC W b (off + i * 10) l[i] := by
  obtain ⟨b, off, hA, hb, hcs⟩ := hr.all h
  refine ⟨b, off, hA, hb, fun W hW i hi => ?_⟩
  have hlen : (itsC l).length = l.length * 10 := hr.1
  have hc : ∀ j, j < 10 → W.cell? ⟨b, off + i * 10 + j, none⟩ = (itC l[i])[j]? := fun j hj => by
    have h1 := hcs (i * 10 + j) (by rw [hlen]; omega)
    rw [its_at l i j hi hj, ← Nat.add_assoc] at h1
    have h2 := hW.block b hb
    unfold World.cell? at h1 ⊢
    rw [h2]
    exact h1
  exact ⟨hc 0 (by omega), hc 1 (by omega), hc 2 (by omega), hc 3 (by omega), hc 4 (by omega), hc 5 (by omega), hc 6 (by omega), hc 7 (by omega), hc 8 (by omega), hc 9 (by omega)⟩
theorem sumW_take (l : List Pl.It) (k : Nat) (h : k < l.length) : Pl.sumW (l.take (k + 1)) = Pl.sumW (l.take k) + Pl.wordsOfD l[k] := by
  induction l generalizing k with
  | nil => simp at h
  | cons x r ih =>
    cases k with
    | zero => simp [Pl.sumW]
    | succ k =>
      have := ih k (by simpa using h)
      simp only [List.take_succ_cons, Pl.sumW, List.getElem_cons_succ]
      omega
theorem wordsOfD_le (x : Pl.It) : Pl.wordsOfD x ≤ 2 := by unfold Pl.wordsOfD; (repeat' split) <;> omega
theorem itVa (X : Pl.It) : itV X = .agg #[.int .i64 (X.kind : Int), .string ⟨X.name.toArray⟩, .int .u8 (X.x.op : Int), .int .u8 (X.x.a : Int), .int .u8 (X.x.b : Int), .int .u8 (X.x.c : Int), .int .i32 X.x.imm, .int .i64 X.n, .string ⟨X.s.toArray⟩, .int .i64 (X.e : Int)] := rfl
set_option maxRecDepth 100000 in
set_option maxHeartbeats 1000000 in
theorem rbase_any (A : Option Addr) (c : Nat) (l : List Pl.It) (w : World) (hr : Rd w 10 A l.length (itsC l)) (hl : l.length ≤ 100000) : Calls Tryz.prog 122 #[.slice A l.length c] w (RetB (fun v _ => v = .int .i64 (Pl.baseD l : Nat)) w) := by
  obtain ⟨R, hR⟩ : ∃ R, Pl.baseD l = R := ⟨_, rfl⟩
  rw [hR]
  have hwo := fun x W => rwordsOf_any x W
  simp only [itVa] at hwo
  have HR := Lib.hid (And.intro hR (And.intro hr hwo))
  clear hR hr hwo
  obtain ⟨n, hn⟩ : ∃ n, l.length = n := ⟨_, rfl⟩
  rw [hn] at hl ⊢
  go_enter Tryz.func122, Tryz.ntmps122
  go_wp2_with fail
  go_loopw [3, 4] (fun v i wr => ∃ (k s : Nat), k ≤ n ∧ v = .int .i64 (s : Int) ∧ i = .int .i64 (k : Int) ∧ s ≤ 2 * k ∧ Below w.heap.size w wr ∧ Hid (s = Pl.sumW (l.take k))) (fun _ i _ => n - (intOf i).toNat)
  case atStart => exact ⟨0, 0, by omega, rfl, rfl, by omega, Below.refl _ _, Lib.hid rfl⟩
  case round =>
    obtain ⟨k, s, hk, rfl, rfl, hs, hb, HK⟩ := hrel
    by_cases hkn : k < n
    · have hkl : k < l.length := by omega
      obtain ⟨b, off, rfl, hbl, hit⟩ := its_all HR.out.2.1 (by omega)
      obtain ⟨i0, i1, i2, i3, i4, i5, i6, i7, i8, i9⟩ := hit wr hb k hkl
      have hst := sumW_take l k hkl
      have hw2 := wordsOfD_le l[k]
      have HC := Lib.hid (fun W => HR.out.2.2 l[k] W)
      obtain ⟨x, hx⟩ : ∃ x, l[k] = x := ⟨_, rfl⟩
      rw [hx] at i0 i1 i2 i3 i4 i5 i6 i7 i8 i9 hst hw2 HC
      obtain ⟨u, hu⟩ : ∃ u, Pl.wordsOfD x = u := ⟨_, rfl⟩
      rw [hu] at hst hw2 HC
      have HS := Lib.hid hst
      clear hit hst hx hu
      go_wp2_with fail
      (with_reducible refine (HC.out _).mono ?_)
      rintro y w1 ⟨v, rfl, rfl, hb1⟩
      have HB := Lib.hid (hb.trans (hb1.mono hb.size))
      clear i0 i1 i2 i3 i4 i5 i6 i7 i8 i9 hb hb1
      go_wp2_with fail
      refine ⟨⟨k + 1, s + u, by omega, ret_i (by omega), ret_i (by omega), by omega, HB.out, Lib.hid ?_⟩, by simp only [intOf]; omega⟩
      rw [HS.out, HK.out]
    · have hse : s = Pl.sumW l := by rw [HK.out, List.take_of_length_le (by omega)]
      have HN := Lib.hid (And.intro hb hse)
      clear hb hse HK
      have hd : ((4 * (s : Int) + 127).tdiv 128) = (((4 * s + 127) / 128 : Nat) : Int) := by rw [Int.tdiv_eq_ediv_of_nonneg (by omega)]; omega
      go_wp2_with fail
      go_ret
      refine ⟨_, rfl, ?_, HN.out.1⟩
      rw [← HR.out.1]
      refine ret_i ?_
      unfold Pl.baseD Pl.up
      rw [← HN.out.2]
      omega
end Go.Proofs.YtmmnkoeajdeldaaGreatDoor
namespace Go.Proofs.YtmmnkoeajdeldaaGreatDoor
open Go.RowKit
set_option linter.unusedVariables false
set_option linter.unusedSimpArgs false
attribute [local go_sem] ba_get ba_cut ba_add
theorem heap_drew (w : World) (B : Nat) : w.drew.heap[B]? = w.heap[B]? := rfl
/-- As item_ret, in a region that draws its order. -/
theorem item_retd {fn : Func} {a : Act} {w W : World} {r B : Nat} (X : Pl.It) (hf : fn.results = #[.cell r 74]) (ha : a.tmps[r]?.getD undef = .pointer (some ⟨B, 0, none⟩)) (hd : a.defers = [])
    (hz : W.heap[B]? = some (.cells (itC Pl.It.nil).toArray 74 (0, 0))) (hb : Below B w W) (hB : w.heap.size = B) :
    bodyPost Tryz.prog fn (RetB (fun v _ => v = itV X) w) .ret a
      ((((((((((W.setCell ⟨B, 0, none⟩ (.int .i64 (X.kind : Int))).setCell ⟨B, 1, none⟩ (.string ⟨X.name.toArray⟩)).setCell ⟨B, 2, none⟩ (.int .u8 (X.x.op : Int))).setCell ⟨B, 3, none⟩ (.int .u8 (X.x.a : Int))).setCell ⟨B, 4, none⟩ (.int .u8 (X.x.b : Int))).setCell ⟨B, 5, none⟩ (.int .u8 (X.x.c : Int))).setCell ⟨B, 6, none⟩ (.int .i32 X.x.imm)).setCell ⟨B, 7, none⟩ (.int .i64 X.n)).setCell ⟨B, 8, none⟩ (.string ⟨X.s.toArray⟩)).setCell ⟨B, 9, none⟩ (.int .i64 (X.e : Int))).drew := by
  refine bodyPost_ret (resultsA (cs := itC X) hf ha (rangeA (t := 74) ?_) Tryz.underlying74 rfl info_item) hd ⟨_, rfl, rfl, ?_⟩
  · rw [heap_drew]; exact set10_heap hz _ _ _ _ _ _ _ _ _ _
  · rw [hB]; exact (set10_below hb _ _ _ _ _ _ _ _ _ _).drew
/-- An instruction's cells. -/
def inC (op a b c : Nat) (imm : Int) : List Value := [.int .u8 (op : Int), .int .u8 (a : Int), .int .u8 (b : Int), .int .u8 (c : Int), .int .i32 imm]
theorem in_cells {W : World} {B op a b c : Nat} {imm : Int} (hz : W.heap[B]? = some (.cells (inC op a b c imm).toArray 33 (0, 0))) : (W.cell? ⟨B, 0, none⟩ = some (.int .u8 (op : Int)) ∧ W.cell? ⟨B, 1, none⟩ = some (.int .u8 (a : Int)) ∧ W.cell? ⟨B, 2, none⟩ = some (.int .u8 (b : Int)) ∧ W.cell? ⟨B, 3, none⟩ = some (.int .u8 (c : Int)) ∧ W.cell? ⟨B, 4, none⟩ = some (.int .i32 imm)) ∧ ∀ j, W.frozen? ⟨B, j, none⟩ = false :=
  ⟨⟨by rw [cell_row W B 0 _ _ hz]; rfl, by rw [cell_row W B 1 _ _ hz]; rfl, by rw [cell_row W B 2 _ _ hz]; rfl, by rw [cell_row W B 3 _ _ hz]; rfl, by rw [cell_row W B 4 _ _ hz]; rfl⟩, fun j => frozen_of W B j _ _ hz⟩
theorem inC_set1 (op a b c : Nat) (imm : Int) (x : Nat) : (inC op a b c imm).toArray.setIfInBounds 1 (.int .u8 (x : Int)) = (inC op x b c imm).toArray := rfl
theorem inC_set2 (op a b c : Nat) (imm : Int) (x : Nat) : (inC op a b c imm).toArray.setIfInBounds 2 (.int .u8 (x : Int)) = (inC op a x c imm).toArray := rfl
theorem inC_set3 (op a b c : Nat) (imm : Int) (x : Nat) : (inC op a b c imm).toArray.setIfInBounds 3 (.int .u8 (x : Int)) = (inC op a b x imm).toArray := rfl
theorem inC_set4 (op a b c : Nat) (imm x : Int) : (inC op a b c imm).toArray.setIfInBounds 4 (.int .i32 x) = (inC op a b c x).toArray := rfl
theorem regD_le (d : Pl.Dt) : Pl.regD d ≤ 255 := by
  have hc : ∀ b : UInt8, b.toNat < 256 := fun b => b.toNat_lt
  unfold Pl.regD
  split
  · omega
  split
  · next a b h => split <;> (have := hc b; omega)
  · next a b c h => split <;> (have := hc c; omega)
  · omega
theorem form_le (op : Nat) (h : 1 ≤ op ∧ op ≤ 31) : 1 ≤ Pl.formN op ∧ Pl.formN op ≤ 5 := by unfold Pl.formN; (repeat' split) <;> omega
set_option maxRecDepth 100000 in
set_option maxHeartbeats 4000000 in
theorem rins_1 (A : Option Addr) (c : Nat) (l : List Pl.Dt) (op : Nat) (w : World) (hr : Rd w 4 A l.length (dtsC l)) (hl0 : 0 < l.length) (hl : l.length ≤ 100000) (hok : ∀ d ∈ l, Pl.DtOk 100000 d) (hop : 1 ≤ op ∧ op ≤ 31) (hf : Pl.formN op = 1) :
    Calls Tryz.prog 121 #[.slice A l.length c, .int .u8 (op : Int)] w (RetB (fun v _ => v = itV (Pl.insD l op)) w) := by
  have hki := fun W hb => rkinds_any A c l W (Rd.below hr hb) hl (fun d hd => (hok d hd).k)
  obtain ⟨b, off, rfl, hbl, hT⟩ := tok_all hr hl0
  obtain ⟨R, hR⟩ : ∃ R, Pl.insD l op = R := ⟨_, rfl⟩
  have hlen : (Pl.dk l).length = l.length := by simp [Pl.dk]
  have hkd : ∀ i, i < l.length → (Pl.dk l)[i]? = some (Pl.dg l i).k := fun i hi => by
    unfold Pl.dk Pl.dg
    rw [List.getElem?_map, List.getD_eq_getElem?_getD, List.getElem?_eq_getElem hi]; rfl
  rw [hR]
  unfold Pl.insD at hR
  rw [hf] at hR
  obtain ⟨K, hK⟩ : ∃ K, Pl.dk l = K := ⟨_, rfl⟩
  rw [hK] at hki hR hlen hkd
  have hkk : ∀ k ∈ K, k < 256 := by rw [← hK]; intro k hk; obtain ⟨d, hd, rfl⟩ := List.mem_map.1 hk; exact (hok d hd).k
  have HKK := Lib.hid hkk
  clear hkk
  obtain ⟨n, hn⟩ : ∃ n, l.length = n := ⟨_, rfl⟩
  rw [hn] at hki hlen hT hl hl0 hkd ⊢
  have hdk : ∀ i, Pl.DtOk 100000 (Pl.dg l i) := fun i => by
    unfold Pl.dg
    rw [List.getD_eq_getElem?_getD]
    rcases Nat.lt_or_ge i l.length with h | h
    · rw [List.getElem?_eq_getElem h]; exact hok _ (List.getElem_mem h)
    · rw [List.getElem?_eq_none h]; exact Pl.DtOk.nil _
  have hfo := fun W => rform_any op W (by omega)
  have hs1 := fun W => rshape_any 1 (by omega) 110 W
  have hs2 := fun W => rshape_any 1 (by omega) 119 W
  rw [hf] at hfo
  have en : ((Pl.shapeD 1 (110 : UInt8).toNat).map UInt8.ofNat) = [119, 119, 44, 119, 44, 119] := rfl
  have ew : ((Pl.shapeD 1 (119 : UInt8).toNat).map UInt8.ofNat) = [119, 119, 44, 119, 44, 119] := rfl
  rw [en] at hs1
  rw [ew] at hs2
  have HS := Lib.hid (And.intro hfo (And.intro hs1 hs2))
  clear en ew hfo hs1 hs2
  obtain ⟨ra, hra⟩ : ∃ x, Pl.regA l 1 = x := ⟨_, rfl⟩
  obtain ⟨rb, hrb⟩ : ∃ x, Pl.regB l 1 = x := ⟨_, rfl⟩
  obtain ⟨rc, hrc⟩ : ∃ x, Pl.regC l 1 = x := ⟨_, rfl⟩
  rw [hra, hrb, hrc] at hR
  have hreg1 := fun W => rreg11_any (Pl.dg l 1) W (hdk 1).k (hdk 1).s
  rw [show Pl.regD (Pl.dg l 1) = ra from hra] at hreg1
  have hra2 : ra ≤ 255 := by rw [← hra]; exact regD_le _
  unfold dtV at hreg1
  have hreg3 := fun W => rreg11_any (Pl.dg l 3) W (hdk 3).k (hdk 3).s
  rw [show Pl.regD (Pl.dg l 3) = rb from hrb] at hreg3
  have hrb2 : rb ≤ 255 := by rw [← hrb]; exact regD_le _
  unfold dtV at hreg3
  have hreg5 := fun W => rreg11_any (Pl.dg l 5) W (hdk 5).k (hdk 5).s
  rw [show Pl.regD (Pl.dg l 5) = rc from hrc] at hreg5
  have hrc2 : rc ≤ 255 := by rw [← hrc]; exact regD_le _
  unfold dtV at hreg5
  obtain ⟨d1, hd1⟩ : ∃ d, Pl.dg l 1 = d := ⟨_, rfl⟩
  have h1 : 1 < n → ∀ W, Below w.heap.size w W → TkC W b (off + 4) d1 := fun hn W hb => by have h := hT W hb 1 hn; rw [hd1] at h; exact h
  have hkd1 := hkd 1
  rw [hd1] at hkd1
  obtain ⟨d3, hd3⟩ : ∃ d, Pl.dg l 3 = d := ⟨_, rfl⟩
  have h3 : 3 < n → ∀ W, Below w.heap.size w W → TkC W b (off + 12) d3 := fun hn W hb => by have h := hT W hb 3 hn; rw [hd3] at h; exact h
  have hkd3 := hkd 3
  rw [hd3] at hkd3
  obtain ⟨d5, hd5⟩ : ∃ d, Pl.dg l 5 = d := ⟨_, rfl⟩
  have h5 : 5 < n → ∀ W, Below w.heap.size w W → TkC W b (off + 20) d5 := fun hn W hb => by have h := hT W hb 5 hn; rw [hd5] at h; exact h
  have hkd5 := hkd 5
  rw [hd5] at hkd5
  rw [hd1] at hreg1
  rw [hd3] at hreg3
  rw [hd5] at hreg5
  have HT1 := Lib.hid h1
  have HT3 := Lib.hid h3
  have HT5 := Lib.hid h5
  have HR1 := Lib.hid hreg1
  have HR3 := Lib.hid hreg3
  have HR5 := Lib.hid hreg5
  have HK := Lib.hid hki
  have HQ := Lib.hid hR
  clear hr hok hT hdk hki hK hn hra hrb hrc hkd hR h1 h3 h5 hd1 hd3 hd5 hreg1 hreg3 hreg5
  go_enter Tryz.func121, Tryz.ntmps121
  go_upto_region 1 with (fail)
  obtain ⟨B, hB⟩ : ∃ B, w.heap.size = B := ⟨_, rfl⟩
  generalize hW : World.alloc w _ = W
  have hz : W.heap[B]? = some (.cells (itC Pl.It.nil).toArray 74 (0, 0)) := by rw [← hW, ← hB]; exact heap_alloc_new _ _
  have hb : Below w.heap.size w W := by rw [← hW]; exact (Below.refl _ _).alloc (Nat.le_refl _) _
  have HZ := Lib.hid (And.intro hz hb)
  rw [hB]
  clear hW hz hb
  go_wp2_with fail
  refine (HS.out.1 _).mono ?_
  rintro y w1 ⟨rfl, rfl⟩
  go_wp2_with fail
  (with_reducible refine (HK.out _ HZ.out.2).mono ?_)
  rintro y w1 ⟨v, rfl, rfl, hb1⟩
  have hz9 := (hb1.block B (blk_lt HZ.out.1)).trans HZ.out.1
  have H1 := Lib.hid (And.intro hz9 (HZ.out.2.trans (hb1.mono HZ.out.2.size)))
  clear hz9 hb1
  by_cases hkn : K = [119, 119, 44, 119, 44, 119]
  · subst hkn
    have hnn : 6 = n := hlen
    subst hnn
    rw [show (([119, 119, 44, 119, 44, 119] : List Nat).map UInt8.ofNat) = [119, 119, 44, 119, 44, 119] from rfl]
    clear hlen
    go_wp2_with fail
    refine (HS.out.2.1 _).mono ?_
    rintro y w2 ⟨rfl, rfl⟩
    have hq1 : ¬ (([119, 119, 44, 119, 44, 119] : List Nat) ≠ Pl.shapeD 1 110 ∧ ([119, 119, 44, 119, 44, 119] : List Nat) ≠ Pl.shapeD 1 119) := fun h => h.1 rfl
    go_upto_region 6 with (fail)
    obtain ⟨C, hC⟩ : ∃ C, w1.heap.size = C := ⟨_, rfl⟩
    generalize hV : World.alloc w1 _ = V
    have hz7 : V.heap[C]? = some (.cells (inC op 0 0 0 0).toArray 33 (0, 0)) := by rw [← hV, ← hC]; exact heap_alloc_new _ _
    have hbV : Below w1.heap.size w1 V := by rw [← hV]; exact (Below.refl _ _).alloc (Nat.le_refl _) _
    have hwC : w.heap.size ≤ C := by rw [← hC]; exact H1.out.2.size
    have hBC : B ≠ C := by have := blk_lt H1.out.1; omega
    have G0 := Lib.hid (And.intro ((hbV.block B (blk_lt H1.out.1)).trans H1.out.1) (And.intro (H1.out.2.trans (hbV.mono H1.out.2.size)) hz7))
    rw [hC]
    clear hV hbV hz7 hC
    obtain ⟨c0, c1, c2, c3⟩ := HT1.out (by decide) V G0.out.2.1
    go_wp2_with fail
    (with_reducible refine (HR1.out _).mono ?_)
    rintro y u0 ⟨v, rfl, rfl, hbu⟩
    have E0 := Lib.hid (And.intro ((hbu.block B (blk_lt G0.out.1)).trans G0.out.1) (And.intro (G0.out.2.1.trans (hbu.mono G0.out.2.1.size)) ((hbu.block C (blk_lt G0.out.2.2)).trans G0.out.2.2)))
    clear hbu c0 c1 c2 c3
    obtain ⟨⟨y0, y1, y2, y3, y4⟩, hyf⟩ := in_cells E0.out.2.2
    have yf := hyf 1
    clear hyf
    go_upto_region 9 with (fail)
    generalize hV : World.setCell _ _ _ = V0
    have hz7 : V0.heap[C]? = some (.cells (inC op ra 0 0 0).toArray 33 (0, 0)) := by rw [← hV, set_at u0 C 1 _ _ _ E0.out.2.2, inC_set1]
    have G1 := Lib.hid (And.intro (show V0.heap[B]? = some (.cells (itC Pl.It.nil).toArray 74 (0, 0)) from by rw [← hV]; exact (Below.heap_setCell _ _ _ _ (by exact hBC)).trans E0.out.1) (And.intro (show Below w.heap.size w V0 from by rw [← hV]; exact E0.out.2.1.setCell (p := ⟨C, 1, none⟩) (by exact hwC) _) hz7))
    clear hV hz7 y0 y1 y2 y3 y4 yf
    obtain ⟨c0, c1, c2, c3⟩ := HT3.out (by decide) V0 G1.out.2.1
    go_wp2_with fail
    (with_reducible refine (HR3.out _).mono ?_)
    rintro y u1 ⟨v, rfl, rfl, hbu⟩
    have E1 := Lib.hid (And.intro ((hbu.block B (blk_lt G1.out.1)).trans G1.out.1) (And.intro (G1.out.2.1.trans (hbu.mono G1.out.2.1.size)) ((hbu.block C (blk_lt G1.out.2.2)).trans G1.out.2.2)))
    clear hbu c0 c1 c2 c3
    obtain ⟨⟨y0, y1, y2, y3, y4⟩, hyf⟩ := in_cells E1.out.2.2
    have yf := hyf 2
    clear hyf
    go_upto_region 12 with (fail)
    generalize hV : World.setCell _ _ _ = V1
    have hz7 : V1.heap[C]? = some (.cells (inC op ra rb 0 0).toArray 33 (0, 0)) := by rw [← hV, set_at u1 C 2 _ _ _ E1.out.2.2, inC_set2]
    have G2 := Lib.hid (And.intro (show V1.heap[B]? = some (.cells (itC Pl.It.nil).toArray 74 (0, 0)) from by rw [← hV]; exact (Below.heap_setCell _ _ _ _ (by exact hBC)).trans E1.out.1) (And.intro (show Below w.heap.size w V1 from by rw [← hV]; exact E1.out.2.1.setCell (p := ⟨C, 2, none⟩) (by exact hwC) _) hz7))
    clear hV hz7 y0 y1 y2 y3 y4 yf
    obtain ⟨c0, c1, c2, c3⟩ := HT5.out (by decide) V1 G2.out.2.1
    go_wp2_with fail
    (with_reducible refine (HR5.out _).mono ?_)
    rintro y u2 ⟨v, rfl, rfl, hbu⟩
    have E2 := Lib.hid (And.intro ((hbu.block B (blk_lt G2.out.1)).trans G2.out.1) (And.intro (G2.out.2.1.trans (hbu.mono G2.out.2.1.size)) ((hbu.block C (blk_lt G2.out.2.2)).trans G2.out.2.2)))
    clear hbu c0 c1 c2 c3
    obtain ⟨⟨y0, y1, y2, y3, y4⟩, hyf⟩ := in_cells E2.out.2.2
    have yf := hyf 3
    clear hyf
    go_upto_region 15 with (fail)
    generalize hV : World.setCell _ _ _ = V2
    have hz7 : V2.heap[C]? = some (.cells (inC op ra rb rc 0).toArray 33 (0, 0)) := by rw [← hV, set_at u2 C 3 _ _ _ E2.out.2.2, inC_set3]
    have G3 := Lib.hid (And.intro (show V2.heap[B]? = some (.cells (itC Pl.It.nil).toArray 74 (0, 0)) from by rw [← hV]; exact (Below.heap_setCell _ _ _ _ (by exact hBC)).trans E2.out.1) (And.intro (show Below w.heap.size w V2 from by rw [← hV]; exact E2.out.2.1.setCell (p := ⟨C, 3, none⟩) (by exact hwC) _) hz7))
    clear hV hz7 y0 y1 y2 y3 y4 yf
    obtain ⟨⟨y0, y1, y2, y3, y4⟩, hyf⟩ := in_cells G3.out.2.2
    by_cases gra : 15 < ra
    case pos =>
      obtain rfl : R = Pl.bad 3 := by rw [← HQ.out, if_neg hq1, if_pos (by omega)]
      have J := Lib.hid (And.intro G3.out.1 G3.out.2.1)
      clear hyf
      go_wp2_with fail
      refine (rbad_any 3 _).mono ?_
      rintro y wb ⟨v, rfl, rfl, hb9⟩
      rw [itV_eq]
      have hz9 := (hb9.block B (blk_lt J.out.1)).trans J.out.1
      have HB9 := Lib.hid (And.intro hz9 (J.out.2.trans (hb9.mono J.out.2.size)))
      clear hz9 hb9
      clear y0 y1 y2 y3 y4
      obtain ⟨⟨z0, z1, z2, z3, z4, z5, z6, z7, z8, z9⟩, hf⟩ := nil_cells HB9.out.1
      obtain ⟨f0, f1, f2, f3, f4, f5, f6, f7, f8, f9⟩ := ten hf
      clear hf
      go_wp2_with fail
      exact item_ret (Pl.bad 3) rfl rfl rfl HB9.out.1 (by rw [← hB]; exact HB9.out.2) hB
    by_cases grb : 15 < rb
    case pos =>
      obtain rfl : R = Pl.bad 3 := by rw [← HQ.out, if_neg hq1, if_pos (by omega)]
      have J := Lib.hid (And.intro G3.out.1 G3.out.2.1)
      clear hyf
      go_wp2_with fail
      refine (rbad_any 3 _).mono ?_
      rintro y wb ⟨v, rfl, rfl, hb9⟩
      rw [itV_eq]
      have hz9 := (hb9.block B (blk_lt J.out.1)).trans J.out.1
      have HB9 := Lib.hid (And.intro hz9 (J.out.2.trans (hb9.mono J.out.2.size)))
      clear hz9 hb9
      clear y0 y1 y2 y3 y4
      obtain ⟨⟨z0, z1, z2, z3, z4, z5, z6, z7, z8, z9⟩, hf⟩ := nil_cells HB9.out.1
      obtain ⟨f0, f1, f2, f3, f4, f5, f6, f7, f8, f9⟩ := ten hf
      clear hf
      go_wp2_with fail
      exact item_ret (Pl.bad 3) rfl rfl rfl HB9.out.1 (by rw [← hB]; exact HB9.out.2) hB
    by_cases grc : 15 < rc
    case pos =>
      obtain rfl : R = Pl.bad 3 := by rw [← HQ.out, if_neg hq1, if_pos (by omega)]
      have J := Lib.hid (And.intro G3.out.1 G3.out.2.1)
      clear hyf
      go_wp2_with fail
      refine (rbad_any 3 _).mono ?_
      rintro y wb ⟨v, rfl, rfl, hb9⟩
      rw [itV_eq]
      have hz9 := (hb9.block B (blk_lt J.out.1)).trans J.out.1
      have HB9 := Lib.hid (And.intro hz9 (J.out.2.trans (hb9.mono J.out.2.size)))
      clear hz9 hb9
      clear y0 y1 y2 y3 y4
      obtain ⟨⟨z0, z1, z2, z3, z4, z5, z6, z7, z8, z9⟩, hf⟩ := nil_cells HB9.out.1
      obtain ⟨f0, f1, f2, f3, f4, f5, f6, f7, f8, f9⟩ := ten hf
      clear hf
      go_wp2_with fail
      exact item_ret (Pl.bad 3) rfl rfl rfl HB9.out.1 (by rw [← hB]; exact HB9.out.2) hB
    have hq2 : ¬ (15 < ra ∨ 15 < rb ∨ 15 < rc) := by omega
    obtain rfl : R = ⟨2, [], ⟨op, ra, rb, rc, 0⟩, 0, [], 0⟩ := by rw [← HQ.out, if_neg hq1, if_neg hq2, if_pos (by trivial)]
    have J := Lib.hid (And.intro G3.out.1 G3.out.2.1)
    clear hyf hq1 hq2
    obtain ⟨⟨z0, z1, z2, z3, z4, z5, z6, z7, z8, z9⟩, hf⟩ := nil_cells J.out.1
    obtain ⟨f0, f1, f2, f3, f4, f5, f6, f7, f8, f9⟩ := ten hf
    clear hf
    go_wp2_with fail
    exact item_ret (⟨2, [], ⟨op, ra, rb, rc, 0⟩, 0, [], 0⟩) rfl rfl rfl J.out.1 (by rw [← hB]; exact J.out.2) hB
  obtain rfl : R = Pl.bad 3 := by rw [← HQ.out, if_pos ⟨hkn, hkn⟩]
  have hk1 : ¬ K.map UInt8.ofNat = ([119, 119, 44, 119, 44, 119] : List Nat).map UInt8.ofNat := fun h => hkn ((kt_eq K _ HKK.out (by decide)).1 h)
  change ¬ K.map UInt8.ofNat = [119, 119, 44, 119, 44, 119] at hk1
  have hk2 : ¬ K.map UInt8.ofNat = ([119, 119, 44, 119, 44, 119] : List Nat).map UInt8.ofNat := fun h => hkn ((kt_eq K _ HKK.out (by decide)).1 h)
  change ¬ K.map UInt8.ofNat = [119, 119, 44, 119, 44, 119] at hk2
  obtain ⟨KT, hKT⟩ : ∃ T, K.map UInt8.ofNat = T := ⟨_, rfl⟩
  rw [hKT] at hk1 hk2 ⊢
  have ek1 : (KT == [119, 119, 44, 119, 44, 119]) = false := beq_eq_false_iff_ne.2 hk1
  have ek2 : (KT == [119, 119, 44, 119, 44, 119]) = false := beq_eq_false_iff_ne.2 hk2
  clear hKT hkn 
  go_wp2_with fail
  refine (HS.out.2.1 _).mono ?_
  rintro y w2 ⟨rfl, rfl⟩
  go_wp2_with fail
  refine (HS.out.2.2 _).mono ?_
  rintro y w2 ⟨rfl, rfl⟩
  go_wp2_with fail
  refine (rbad_any 3 _).mono ?_
  rintro y wb ⟨v, rfl, rfl, hb9⟩
  rw [itV_eq]
  have hz9 := (hb9.block B (blk_lt H1.out.1)).trans H1.out.1
  have HB9 := Lib.hid (And.intro hz9 (H1.out.2.trans (hb9.mono H1.out.2.size)))
  clear hz9 hb9
  obtain ⟨⟨z0, z1, z2, z3, z4, z5, z6, z7, z8, z9⟩, hf⟩ := nil_cells HB9.out.1
  obtain ⟨f0, f1, f2, f3, f4, f5, f6, f7, f8, f9⟩ := ten hf
  clear hf
  go_wp2_with fail
  exact item_ret (Pl.bad 3) rfl rfl rfl HB9.out.1 (by rw [← hB]; exact HB9.out.2) hB
end Go.Proofs.YtmmnkoeajdeldaaGreatDoor
