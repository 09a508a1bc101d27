/- The walks of the two closures of exe.Lay. -/
import Derived.Test.YtplhmhclcfclhaaLayPlain
import Derived.Test.YtplhmhclcfclhaaExeW4
import Derived.Test.YtplhmhclcfclhaaPush
import Derived.Test.YtplhmhclcfclhaaShelfR
import Derived.StillTailTactics
namespace Go.Proofs.Ytplhmhclcfclhaa
open Go.RowKit
attribute [local go_sem] ba_get ba_add

def layC (x : Pl.Lay) : List Value := [.int .i64 x.at_, .string ⟨x.data.toArray⟩, .bool x.write]
def layCs (L : List Pl.Lay) : List Value := L.flatMap layC
theorem layCs_snoc (L : List Pl.Lay) (x : Pl.Lay) : layCs (L ++ [x]) = layCs L ++ layC x := by simp [layCs]
theorem layCs_len (L : List Pl.Lay) : (layCs L).length = L.length * 3 := by
  induction L with
  | nil => rfl
  | cons x L ih => simp [layCs, layC] at ih ⊢; omega

theorem info_lay : (Try.prog.info? 49).map (fun i => (i.zero, i.size, i.bytes)) = some (some (.agg #[.int .i64 0, .string ⟨#[]⟩, .bool false]), 3, 32) := by kernel_rfl

/-- append of one element of three cells to a row of the call's own. -/
theorem push3 {P : Program} {ops : Array Oper} {rest : List Oper} {o : Oper} {a : Act} {Q : Exit → Act → World → Prop} (hgd : o.guard = none) (s x : Operand) (t : TypeId)
    (ho : o.op = .call { callee := .builtin .append, args := #[s, x], argTypes := #[t, t] })
    (base : Nat) (e : TypeId) (z : Value) (bytes : Nat) (ht : P.underlying t = some (.slice e)) (hi : (P.info? e).map (fun i => (i.zero, i.size, i.bytes)) = some (some z, 3, bytes)) (hzs : z.cells.size = 3)
    (w : World) (v : Value) (n : Nat) (xs : List Value) (y0 y1 y2 : Value) (hs : a.eval s = v) (hown : w.ownsRow base e 3 v n xs) (hx : a.eval x = .slice (some ⟨w.heap.size, 0, none⟩) 1 1)
    (h0 : y0.oneCell' = true) (h1 : y1.oneCell' = true) (h2 : y2.oneCell' = true)
    (hbytes : (n + 1) * bytes ≤ 140737488355328) (hb0 : 1 ≤ bytes) (hbase : base ≤ w.heap.size)
    (h : ∀ A' c' w', w'.ownsRow base e 3 (.slice A' (n + 1) c') (n + 1) (xs ++ [y0, y1, y2]) → Below base w w' → wpList P ops Q rest (a.put o.dst (.slice A' (n + 1) c')) w') : wpList P ops Q (o :: rest) a (w.alloc (.cells #[y0, y1, y2] e)) := by
  obtain ⟨i0, hi0, hz0, hz1, hz2⟩ := info_parts hi
  refine wpList_append_own _ hgd s x t ho base e i0 z 3 bytes ht hi0 hz0 hz1 hz2 hzs (by decide) v n xs hs (hown.alloc _) ⟨w.heap.size, 0, none⟩ 1 1 [y0, y1, y2] hx rfl ?_ ?_ ?_ hbytes (by simp; omega) ?_
  · intro j u hu
    rw [addr_add, Nat.zero_add]
    have : (w.alloc (.cells #[y0, y1, y2] e)).cell? ⟨w.heap.size, j, none⟩ = [y0, y1, y2][j]? := by simp [go_sem]
    rw [this]; exact hu
  · intro u hu; simp at hu; rcases hu with rfl | rfl | rfl
    · exact h0
    · exact h1
    · exact h2
  · have : n + 1 ≤ (n + 1) * bytes := Nat.le_mul_of_pos_right _ hb0
    simp only [maxLen]; omega
  · intro v' w' h2 h3 _
    obtain ⟨A', c', rfl⟩ : ∃ A c, v' = .slice A (n + 1) c := by
      rcases h2.2 with ⟨_, h0⟩ | ⟨g, cap, cur, h1, _⟩
      · omega
      · exact ⟨_, cap, h1⟩
    refine h A' c' w' h2 ?_
    exact ((Below.refl _ _).alloc hbase _).trans (below_own (hown.alloc _) h3 (by simp; omega))

theorem frozen_of (w : World) (g j : Nat) (cs : Array Value) (t : TypeId) (h : w.heap[g]? = some (.cells cs t (0, 0))) : w.frozen? ⟨g, j, none⟩ = false := by simp [World.frozen?, h]
theorem set_one (w : World) (g : Nat) (x y : Value) (t : TypeId) (h : w.heap[g]? = some (.cells #[x] t (0, 0))) : (w.setCell ⟨g, 0, none⟩ y).heap[g]? = some (.cells #[y] t (0, 0)) := by
  simp [World.setCell, Array.getElem?_modify, h]
/-- What stands of exe.Lay's two variables: the list in block B, the function in block B + 1, the pages in blocks behind. -/
def LaySt (B : Nat) (w : World) (A : Option Addr) (c : Nat) (L : List Pl.Lay) : Prop :=
  w.heap[B]? = some (.cells #[.slice A L.length c] 45 (0, 0)) ∧ w.heap[B + 1]? = some (.cells #[.func (.func 44) #[] #[.pointer (some ⟨B, 0, none⟩)]] 82 (0, 0)) ∧
  w.ownsRow (B + 2) 49 3 (.slice A L.length c) L.length (layCs L)

set_option maxRecDepth 100000 in
set_option maxHeartbeats 1000000 in
theorem lay1_any (B : Nat) (at_ : Int) (s : List UInt8) (b : Bool) (w : World) (A : Option Addr) (c : Nat) (L : List Pl.Lay) (hst : LaySt B w A c L) (hs : s.length ≤ 128) (hL : L.length ≤ 1000) :
    Calls Try.prog 44 #[.int .i64 at_, .string ⟨s.toArray⟩, .bool b, .pointer (some ⟨B, 0, none⟩)] w fun e w' => e = .returned (.tuple #[]) ∧ (∃ A' c', LaySt B w' A' c' (L ++ [⟨at_, Pl.padP s, b⟩])) ∧ Below B w w' := by
  obtain ⟨hB0, hB1, hown⟩ := hst
  have HST := Lib.hid (And.intro hB0 hB1); clear hB0 hB1
  have hltw : B + 1 < w.heap.size := by
    rcases Nat.lt_or_ge (B + 1) w.heap.size with h | h
    · exact h
    · have := HST.out.2; rw [Array.getElem?_eq_none h] at this; cases this
  have HI := Lib.hid info_lay
  go_enter Try.func44, Try.ntmps44
  go_wp2_with fail
  (with_reducible refine (repeat0_int _ _ ?_ ?_).mono ?_)
  · omega
  · omega
  rintro e w1 ⟨rfl, hb1⟩
  obtain ⟨p, hp⟩ : ∃ p, List.replicate (128 - (s.length : Int)).toNat (0 : UInt8) = p := ⟨_, rfl⟩
  have hpl : p.length ≤ 128 := by rw [← hp, List.length_replicate]; omega
  have hpad : s ++ p = Pl.padP s := by rw [← hp]; unfold Pl.padP Pl.zs; rw [show (128 - (s.length : Int)).toNat = 128 - s.length by omega]
  rw [hp]
  have hcat : s.length + p.length ≤ 9223372036854775807 := by omega
  have HB0 := Lib.hid (heap_keep HST.out.1 hb1)
  have HB1 := Lib.hid (heap_keep HST.out.2 hb1)
  have hown1 := own_below hown hb1
  have hltB : B + 1 < w1.heap.size := by
    rcases Nat.lt_or_ge (B + 1) w1.heap.size with h | h
    · exact h
    · have := HB1.out; rw [Array.getElem?_eq_none h] at this; cases this
  have hc0 : w1.cell? ⟨B, 0, none⟩ = some (.slice A L.length c) := by rw [cell_of_row w1 B 0 _ _ _ HB0.out]; rfl
  have HP := Lib.hid (And.intro hp hpad); clear hp hpad hown
  go_wp2_with (at_builtin; refine push3 rfl (.tmp 13) (.tmp 18) 45 rfl (B + 2) 49 _ 32 Try.underlying45 HI.out rfl _ _ _ _ _ _ _ rfl hown1 rfl rfl rfl rfl (by omega) (by omega) (by omega) ?_; intro A2 c2 w2 hown2 hb2; have HB2 := Lib.hid ((hb2.block B (by omega)).trans HB0.out); have hc2 : w2.cell? ⟨B, 0, none⟩ = some (.slice A L.length c) := (cell_of_row w2 B 0 _ _ _ HB2.out).trans rfl; have hf2 : w2.frozen? ⟨B, 0, none⟩ = false := frozen_of w2 B 0 _ _ HB2.out)
  refine bodyPost_end (results_none rfl _ _ _) rfl ?_
  have hb12 : Below B w w2 := (hb1.mono (by omega)).trans (hb2.mono (by omega))
  refine ⟨rfl, ⟨A2, c2, ?_, ?_, ?_⟩, hb12.setCell (Nat.le_refl _) _⟩
  · rw [show (L ++ [(⟨at_, Pl.padP s, b⟩ : Pl.Lay)]).length = L.length + 1 by simp]
    exact set_one w2 B _ _ _ HB2.out
  · rw [Below.heap_setCell _ _ _ _ (by simp), hb2.block (B + 1) (by omega)]
    exact HB1.out
  · have h1 := ownsRow_setCell_below hown2 (a := ⟨B, 0, none⟩) (by simp) (.slice A2 (L.length + 1) c2)
    rw [layCs_snoc, show (L ++ [(⟨at_, Pl.padP s, b⟩ : Pl.Lay)]).length = L.length + 1 by simp]
    rw [HP.out.2] at h1
    exact h1

theorem LaySt.lt {B : Nat} {w : World} {A : Option Addr} {c : Nat} {L : List Pl.Lay} (h : LaySt B w A c L) : B + 1 < w.heap.size := by
  rcases Nat.lt_or_ge (B + 1) w.heap.size with h1 | h1
  · exact h1
  · have := h.2.1; rw [Array.getElem?_eq_none h1] at this; cases this
theorem LaySt.cell0 {B : Nat} {w : World} {A : Option Addr} {c : Nat} {L : List Pl.Lay} (h : LaySt B w A c L) : w.cell? ⟨B, 0, none⟩ = some (.slice A L.length c) := (cell_of_row w B 0 _ _ _ h.1).trans rfl
theorem LaySt.cell1 {B : Nat} {w : World} {A : Option Addr} {c : Nat} {L : List Pl.Lay} (h : LaySt B w A c L) : w.cell? ⟨B + 1, 0, none⟩ = some (.func (.func 44) #[] #[.pointer (some ⟨B, 0, none⟩)]) := (cell_of_row w (B + 1) 0 _ _ _ h.2.1).trans rfl
theorem LaySt.below {B : Nat} {w w' : World} {A : Option Addr} {c : Nat} {L : List Pl.Lay} (h : LaySt B w A c L) (hb : Below w.heap.size w w') : LaySt B w' A c L := ⟨heap_keep h.1 hb, heap_keep h.2.1 hb, own_below h.2.2 hb⟩
theorem LaySt.drew {B : Nat} {w : World} {A : Option Addr} {c : Nat} {L : List Pl.Lay} (h : LaySt B w A c L) : LaySt B w.drew A c L := h.below ((Below.refl _ _).drew)

attribute [local go_sem] ba_cut List.drop_zero Nat.sub_zero
set_option maxRecDepth 100000 in
set_option maxHeartbeats 1000000 in
theorem lay2_any (B : Nat) (s0 : List UInt8) (count : Nat) (b : Bool) (w : World) (A0 : Option Addr) (c0 : Nat) (L0 : List Pl.Lay) (hst : LaySt B w A0 c0 L0) (hs : s0.length ≤ 100000) (hL : L0.length + count ≤ 1000) :
    Calls Try.prog 46 #[.string ⟨s0.toArray⟩, .int .i64 count, .bool b, .pointer (some ⟨B + 1, 0, none⟩), .pointer (some ⟨B, 0, none⟩)] w fun e w' => e = .returned (.tuple #[]) ∧ (∃ A' c', LaySt B w' A' c' (Pl.spread count L0 s0 b)) ∧ Below B w w' := by
  obtain ⟨R, hR⟩ : ∃ R, Pl.spread count L0 s0 b = R := ⟨_, rfl⟩
  rw [hR]
  have HR := Lib.hid hR; clear hR
  go_enter Try.func46, Try.ntmps46
  go_wp2_with fail
  go_loopw [0, 10] (fun t i wr => ∃ (j : Nat) (s : List UInt8) (A : Option Addr) (c : Nat) (L : List Pl.Lay), j ≤ count ∧ i = .int .i64 j ∧ t = .string ⟨s.toArray⟩ ∧ s.length ≤ 100000 ∧ L.length + (count - j) ≤ 1000 ∧ LaySt B wr A c L ∧ Below B w wr ∧ Hid (Pl.spread (count - j) L s b = R)) (fun _ i _ => count - (intOf i).toNat)
  case atStart => exact ⟨0, s0, A0, c0, L0, Nat.zero_le _, rfl, rfl, hs, by omega, hst, Below.refl _ _, HR⟩
  case round =>
    obtain ⟨j, s, A, c, L, hj, rfl, rfl, hsl, hLl, hst', hbw, H⟩ := hrel
    by_cases hlt : j < count
    · have hc0 := hst'.cell0
      have hc1 := hst'.cell1
      obtain ⟨m, hm⟩ : ∃ m : Nat, min s.length 128 = m := ⟨_, rfl⟩
      have hmi : min (s.length : Int) 128 = (m : Int) := by omega
      have hm1 : m ≤ s.length := by omega
      have hm2 : m ≤ 128 := by omega
      have hmx : s.take m = s.take 128 ∧ s.drop m = s.drop 128 := by
        rcases Nat.le_total s.length 128 with h | h
        · rw [Nat.min_eq_left h] at hm
          subst hm
          exact ⟨by rw [List.take_of_length_le (Nat.le_refl _), List.take_of_length_le h], by rw [List.drop_eq_nil_of_le (Nat.le_refl _), List.drop_eq_nil_of_le h]⟩
        · rw [Nat.min_eq_right h] at hm
          subst hm; exact ⟨rfl, rfl⟩
      obtain ⟨x, hx⟩ : ∃ x, s.take m = x := ⟨_, rfl⟩
      obtain ⟨s', hs'⟩ : ∃ s', List.take (s.length - m) (List.drop m s) = s' := ⟨_, rfl⟩
      have hs'' : s' = s.drop 128 := by rw [← hs', cut_all]; exact hmx.2
      have hxl : x.length ≤ 128 := by rw [← hx, List.length_take]; omega
      have hsl' : s'.length ≤ 100000 := by rw [hs'', List.length_drop]; omega
      have hx' : x = s.take 128 := hx.symm.trans hmx.1
      have HM := Lib.hid (And.intro hm (And.intro hx' hs'')); clear hm hmx hx' hs''
      have hm0i : (0 : Int) ≤ (m : Int) := by omega
      have hm1i : (m : Int) ≤ (s.length : Int) := by omega
      have hstd := hst'.drew
      go_wp2_with fail
      go_still_tail 7, (by kernel_rfl)
      change wpList _ _ _ _ _ wr.drew
      go_wp2_with fail
      (with_reducible refine (lay1_any B _ x b _ A c L hstd hxl (by omega)).mono ?_)
      rintro e w2 ⟨rfl, ⟨A2, c2, hst2⟩, hb2⟩
      clear hc0 hc1
      go_wp2_with fail
      go_roundw
      case rel =>
        refine ⟨j + 1, s', A2, c2, _, by omega, by go_num, rfl, hsl', by simp; omega, hst2, hbw.trans ((Below.refl _ _).drew.trans hb2), ?_⟩
        have h1 := H.out
        rw [show count - j = (count - (j + 1)) + 1 by omega, Pl.spread] at h1
        show _ = _
        rw [HM.out.2.1, HM.out.2.2]; exact h1
      case measure => simp [intOf]; omega
    · go_wp2_with fail
      refine bodyPost_end (results_none rfl _ _ _) rfl ?_
      have h1 := H.out
      rw [show count - j = 0 by omega] at h1
      exact ⟨rfl, ⟨A, c, by rw [← h1]; exact hst'⟩, hbw⟩
end Go.Proofs.Ytplhmhclcfclhaa
