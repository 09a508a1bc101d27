/- ExeMade: EmB EmO EmC for ExeMade. -/
import Derived.Test.YtmmnkoeajdeldaaGreatDoorEmA
import Derived.Shelf.Strings.Repeat
import Derived.Test.YtmmnkoeajdeldaaGreatDoorShelf
import Derived.Test.YtmmnkoeajdeldaaGreatDoorBase
import Derived.StillTailTactics
import Derived.Laws.EntriesVeiled
import Derived.Test.YtmmnkoeajdeldaaGreatDoorSteady
import Derived.Deep.CutRange
import Derived.Deep.OwnRows
import Derived.Test.YtmmnkoeajdeldaaGreatDoorAsLaid
import Derived.Test.YtmmnkoeajdeldaaGreatDoorShaped
import Derived.Test.YtmmnkoeajdeldaaGreatDoorTie
import Derived.Test.YtmmnkoeajdeldaaGreatDoorCards
import Derived.Test.YtmmnkoeajdeldaaGreatDoorAsLt
import Derived.Test.YtmmnkoeajdeldaaGreatDoorAsEq3
namespace Go.Proofs
open Go.Shelf
def Tryz.rpt_ren : Go.Shelf.Ren := ⟨fun | 99 => 132 | 105 => 89 | 165 => 125 | 166 => 42 | 169 => 45 | 170 => 133 | 206 => 152 | 212 => 131 | 240 => 81 | 241 => 144 | 263 => 150 | 264 => 151 | 276 => 126 | 277 => 164 | n => n, fun | 0 => 0 | 3 => 3 | 4 => 4 | 5 => 5 | 9 => 9 | 20 => 20 | 37 => 59 | 46 => 78 | 51 => 24 | 53 => 100 | 70 => 92 | 72 => 94 | 75 => 96 | 76 => 97 | 80 => 102 | 109 => 184 | 127 => 141 | 146 => 202 | 148 => 204 | 164 => 177 | n => n, fun  | n => n⟩
theorem Tryz.rpt_105 : Go.Proofs.Lays.n105 Tryz.prog Tryz.rpt_ren := {
  mixed := by kernel_rfl
  f99 := Tryz.func132.trans (congrArg some (by kernel_rfl))
  f105 := Tryz.func89.trans (congrArg some (by kernel_rfl))
  f165 := Tryz.func125.trans (congrArg some (by kernel_rfl))
  f166 := Tryz.func42.trans (congrArg some (by kernel_rfl))
  f169 := Tryz.func45.trans (congrArg some (by kernel_rfl))
  f170 := Tryz.func133.trans (congrArg some (by kernel_rfl))
  f206 := Tryz.func152.trans (congrArg some (by kernel_rfl))
  f212 := Tryz.func131.trans (congrArg some (by kernel_rfl))
  f240 := Tryz.func81.trans (congrArg some (by kernel_rfl))
  f241 := Tryz.func144.trans (congrArg some (by kernel_rfl))
  f263 := Tryz.func150.trans (congrArg some (by kernel_rfl))
  f264 := Tryz.func151.trans (congrArg some (by kernel_rfl))
  f276 := Tryz.func126.trans (congrArg some (by kernel_rfl))
  f277 := Tryz.func164.trans (congrArg some (by kernel_rfl))
  t0 := Tryz.underlying0
  a0 := Tryz.isAgg0
  z0 := Tryz.sizeOf0
  v0 := Tryz.zeroValue0
  t3 := Tryz.underlying3
  a3 := Tryz.isAgg3
  z3 := Tryz.sizeOf3
  v3 := Tryz.zeroValue3
  t4 := Tryz.underlying4
  a4 := Tryz.isAgg4
  z4 := Tryz.sizeOf4
  v4 := Tryz.zeroValue4
  t5 := Tryz.underlying5
  a5 := Tryz.isAgg5
  z5 := Tryz.sizeOf5
  v5 := Tryz.zeroValue5
  t9 := Tryz.underlying9
  a9 := Tryz.isAgg9
  z9 := Tryz.sizeOf9
  v9 := Tryz.zeroValue9
  t20 := Tryz.underlying20
  a20 := Tryz.isAgg20
  z20 := Tryz.sizeOf20
  v20 := Tryz.zeroValue20
  t37 := Tryz.underlying59
  a37 := Tryz.isAgg59
  z37 := Tryz.sizeOf59
  v37 := Tryz.zeroValue59
  t46 := Tryz.underlying78
  a46 := Tryz.isAgg78
  z46 := Tryz.sizeOf78
  v46 := Tryz.zeroValue78
  t51 := Tryz.underlying24
  a51 := Tryz.isAgg24
  z51 := Tryz.sizeOf24
  v51 := Tryz.zeroValue24
  t53 := Tryz.underlying100
  a53 := Tryz.isAgg100
  z53 := Tryz.sizeOf100
  v53 := Tryz.zeroValue100
  t70 := Tryz.underlying92
  a70 := Tryz.isAgg92
  z70 := Tryz.sizeOf92
  v70 := Tryz.zeroValue92
  t72 := Tryz.underlying94
  a72 := Tryz.isAgg94
  z72 := Tryz.sizeOf94
  v72 := Tryz.zeroValue94
  t75 := Tryz.underlying96
  a75 := Tryz.isAgg96
  z75 := Tryz.sizeOf96
  v75 := Tryz.zeroValue96
  t76 := Tryz.underlying97
  a76 := Tryz.isAgg97
  z76 := Tryz.sizeOf97
  v76 := Tryz.zeroValue97
  t109 := Tryz.underlying184
  a109 := Tryz.isAgg184
  z109 := Tryz.sizeOf184
  v109 := Tryz.zeroValue184
  t127 := Tryz.underlying141
  a127 := Tryz.isAgg141
  z127 := Tryz.sizeOf141
  v127 := Tryz.zeroValue141
  t146 := Tryz.underlying202
  a146 := Tryz.isAgg202
  z146 := Tryz.sizeOf202
  v146 := Tryz.zeroValue202
  t148 := Tryz.underlying204
  a148 := Tryz.isAgg204
  z148 := Tryz.sizeOf204
  v148 := Tryz.zeroValue204
  t164 := Tryz.underlying177
  a164 := Tryz.isAgg177
  z164 := Tryz.sizeOf177
  v164 := Tryz.zeroValue177 }
theorem Tryz.rpt_x : Builder.Extra Tryz.prog Tryz.rpt_ren := {
  sizeBuilder := by kernel_rfl
  liesBuilder := by kernel_rfl
  t5 := Tryz.underlying5
  a5 := Tryz.isAgg5
  z5 := Tryz.sizeOf5
  v5 := Tryz.zeroValue5
  infoByte := by kernel_rfl
  cellsByte := by kernel_rfl
  sizeByte := by kernel_rfl
  neB5 := by decide }
namespace YtmmnkoeajdeldaaGreatDoor
open Go.RowKit
theorem repeatL_one (x : UInt8) : ∀ c : Nat, Lib.repeatL [x] c = List.replicate c x
  | 0 => rfl
  | c + 1 => by simp [Lib.repeatL, repeatL_one x c, List.replicate_succ]
/-- So many zeros. -/
theorem repeat0 (c : Nat) (w : World) (hc : c ≤ 1099511627776) :
    Calls Tryz.prog 89 #[.string ⟨#[0]⟩, .int .i64 (c : Int)] w fun e w' => e = .returned (.string ⟨(List.replicate c (0 : UInt8)).toArray⟩) ∧ Below w.heap.size w w' := by
  refine (Any.strings_Repeat Tryz.rpt_105 Tryz.rpt_x ⟨#[0]⟩ c w (by omega) (by show 1 * c ≤ _; omega)).mono ?_
  rintro e w' ⟨he, hb⟩
  have : Lib.repeatL (⟨#[0]⟩ : ByteArray).data.toList c = List.replicate c 0 := repeatL_one 0 c
  rw [this] at he
  exact ⟨he, hb⟩
theorem repeat0_int (x : Int) (w : World) (h0 : 0 ≤ x) (h1 : x ≤ 1099511627776) :
    Calls Tryz.prog 89 #[.string ⟨#[0]⟩, .int .i64 x] w fun e w' => e = .returned (.string ⟨(List.replicate x.toNat (0 : UInt8)).toArray⟩) ∧ Below w.heap.size w w' := by
  obtain ⟨n, rfl⟩ := Int.eq_ofNat_of_zero_le h0
  exact repeat0 n w (by omega)
end YtmmnkoeajdeldaaGreatDoor
end Go.Proofs
namespace Go.Proofs.YtmmnkoeajdeldaaGreatDoor
open Go.RowKit
attribute [local go_sem] ba_get ba_add

def layC (x : Pl.Lay) : List Value := [.int .i64 x.at_, .string ⟨x.data.toArray⟩, .bool x.write]
def layCs (L : List Pl.Lay) : List Value := L.flatMap layC
theorem layCs_snoc (L : List Pl.Lay) (x : Pl.Lay) : layCs (L ++ [x]) = layCs L ++ layC x := by simp [layCs]
theorem layCs_len (L : List Pl.Lay) : (layCs L).length = L.length * 3 := by
  induction L with
  | nil => rfl
  | cons x L ih => simp [layCs, layC] at ih ⊢; omega

theorem info_lay : (Tryz.prog.info? 108).map (fun i => (i.zero, i.size, i.bytes)) = some (some (.agg #[.int .i64 0, .string ⟨#[]⟩, .bool false]), 3, 32) := by kernel_rfl

/-- append of one element of three cells to a row of the call's own. -/
theorem push3 {P : Program} {ops : Array Oper} {rest : List Oper} {o : Oper} {a : Act} {Q : Exit → Act → World → Prop} (hgd : o.guard = none) (s x : Operand) (t : TypeId)
    (ho : o.op = .call { callee := .builtin .append, args := #[s, x], argTypes := #[t, t] })
    (base : Nat) (e : TypeId) (z : Value) (bytes : Nat) (ht : P.underlying t = some (.slice e)) (hi : (P.info? e).map (fun i => (i.zero, i.size, i.bytes)) = some (some z, 3, bytes)) (hzs : z.cells.size = 3)
    (w : World) (v : Value) (n : Nat) (xs : List Value) (y0 y1 y2 : Value) (hs : a.eval s = v) (hown : w.ownsRow base e 3 v n xs) (hx : a.eval x = .slice (some ⟨w.heap.size, 0, none⟩) 1 1)
    (h0 : y0.oneCell' = true) (h1 : y1.oneCell' = true) (h2 : y2.oneCell' = true)
    (hbytes : (n + 1) * bytes ≤ 140737488355328) (hb0 : 1 ≤ bytes) (hbase : base ≤ w.heap.size)
    (h : ∀ A' c' w', w'.ownsRow base e 3 (.slice A' (n + 1) c') (n + 1) (xs ++ [y0, y1, y2]) → Below base w w' → wpList P ops Q rest (a.put o.dst (.slice A' (n + 1) c')) w') : wpList P ops Q (o :: rest) a (w.alloc (.cells #[y0, y1, y2] e)) := by
  obtain ⟨i0, hi0, hz0, hz1, hz2⟩ := info_parts hi
  refine wpList_append_own _ hgd s x t ho base e i0 z 3 bytes ht hi0 hz0 hz1 hz2 hzs (by decide) v n xs hs (hown.alloc _) ⟨w.heap.size, 0, none⟩ 1 1 [y0, y1, y2] hx rfl ?_ ?_ ?_ hbytes (by simp; omega) ?_
  · intro j u hu
    rw [addr_add, Nat.zero_add]
    have : (w.alloc (.cells #[y0, y1, y2] e)).cell? ⟨w.heap.size, j, none⟩ = [y0, y1, y2][j]? := by simp [go_sem]
    rw [this]; exact hu
  · intro u hu; simp at hu; rcases hu with rfl | rfl | rfl
    · exact h0
    · exact h1
    · exact h2
  · have : n + 1 ≤ (n + 1) * bytes := Nat.le_mul_of_pos_right _ hb0
    simp only [maxLen]; omega
  · intro v' w' h2 h3 _
    obtain ⟨A', c', rfl⟩ : ∃ A c, v' = .slice A (n + 1) c := by
      rcases h2.2 with ⟨_, h0⟩ | ⟨g, cap, cur, h1, _⟩
      · omega
      · exact ⟨_, cap, h1⟩
    refine h A' c' w' h2 ?_
    exact ((Below.refl _ _).alloc hbase _).trans (below_own (hown.alloc _) h3 (by simp; omega))


theorem set_one (w : World) (g : Nat) (x y : Value) (t : TypeId) (h : w.heap[g]? = some (.cells #[x] t (0, 0))) : (w.setCell ⟨g, 0, none⟩ y).heap[g]? = some (.cells #[y] t (0, 0)) := by
  simp [World.setCell, Array.getElem?_modify, h]
/-- What stands of exe.Lay's two variables: the list in block B, the function in block B + 1, the pages in blocks behind. -/
def LaySt (B : Nat) (w : World) (A : Option Addr) (c : Nat) (L : List Pl.Lay) : Prop :=
  w.heap[B]? = some (.cells #[.slice A L.length c] 104 (0, 0)) ∧ w.heap[B + 1]? = some (.cells #[.func (.func 88) #[] #[.pointer (some ⟨B, 0, none⟩)]] 146 (0, 0)) ∧
  w.ownsRow (B + 2) 108 3 (.slice A L.length c) L.length (layCs L)

set_option maxRecDepth 100000 in
set_option maxHeartbeats 1000000 in
theorem lay1_any (B : Nat) (at_ : Int) (s : List UInt8) (b : Bool) (w : World) (A : Option Addr) (c : Nat) (L : List Pl.Lay) (hst : LaySt B w A c L) (hs : s.length ≤ 128) (hL : L.length ≤ 1000) :
    Calls Tryz.prog 88 #[.int .i64 at_, .string ⟨s.toArray⟩, .bool b, .pointer (some ⟨B, 0, none⟩)] w fun e w' => e = .returned (.tuple #[]) ∧ (∃ A' c', LaySt B w' A' c' (L ++ [⟨at_, Pl.padP s, b⟩])) ∧ Below B w w' := by
  obtain ⟨hB0, hB1, hown⟩ := hst
  have HST := Lib.hid (And.intro hB0 hB1); clear hB0 hB1
  have hltw : B + 1 < w.heap.size := by
    rcases Nat.lt_or_ge (B + 1) w.heap.size with h | h
    · exact h
    · have := HST.out.2; rw [Array.getElem?_eq_none h] at this; cases this
  have HI := Lib.hid info_lay
  go_enter Tryz.func88, Tryz.ntmps88
  go_wp2_with fail
  (with_reducible refine (repeat0_int _ _ ?_ ?_).mono ?_)
  · omega
  · omega
  rintro e w1 ⟨rfl, hb1⟩
  obtain ⟨p, hp⟩ : ∃ p, List.replicate (128 - (s.length : Int)).toNat (0 : UInt8) = p := ⟨_, rfl⟩
  have hpl : p.length ≤ 128 := by rw [← hp, List.length_replicate]; omega
  have hpad : s ++ p = Pl.padP s := by rw [← hp]; unfold Pl.padP Pl.zs; rw [show (128 - (s.length : Int)).toNat = 128 - s.length by omega]
  rw [hp]
  have hcat : s.length + p.length ≤ 9223372036854775807 := by omega
  have HB0 := Lib.hid (heap_keep HST.out.1 hb1)
  have HB1 := Lib.hid (heap_keep HST.out.2 hb1)
  have hown1 := own_below hown hb1
  have hltB : B + 1 < w1.heap.size := by
    rcases Nat.lt_or_ge (B + 1) w1.heap.size with h | h
    · exact h
    · have := HB1.out; rw [Array.getElem?_eq_none h] at this; cases this
  have hc0 : w1.cell? ⟨B, 0, none⟩ = some (.slice A L.length c) := by rw [cell_of_row w1 B 0 _ _ _ HB0.out]; rfl
  have HP := Lib.hid (And.intro hp hpad); clear hp hpad hown
  go_wp2_with (at_builtin; refine push3 rfl (.tmp 13) (.tmp 18) 104 rfl (B + 2) 108 _ 32 Tryz.underlying104 HI.out rfl _ _ _ _ _ _ _ rfl hown1 rfl rfl rfl rfl (by omega) (by omega) (by omega) ?_; intro A2 c2 w2 hown2 hb2; have HB2 := Lib.hid ((hb2.block B (by omega)).trans HB0.out); have hc2 : w2.cell? ⟨B, 0, none⟩ = some (.slice A L.length c) := (cell_of_row w2 B 0 _ _ _ HB2.out).trans rfl; have hf2 : w2.frozen? ⟨B, 0, none⟩ = false := frozen_of w2 B 0 _ _ HB2.out)
  refine bodyPost_end (results_none rfl _ _ _) rfl ?_
  have hb12 : Below B w w2 := (hb1.mono (by omega)).trans (hb2.mono (by omega))
  refine ⟨rfl, ⟨A2, c2, ?_, ?_, ?_⟩, hb12.setCell (Nat.le_refl _) _⟩
  · rw [show (L ++ [(⟨at_, Pl.padP s, b⟩ : Pl.Lay)]).length = L.length + 1 by simp]
    exact set_one w2 B _ _ _ HB2.out
  · rw [Below.heap_setCell _ _ _ _ (by simp), hb2.block (B + 1) (by omega)]
    exact HB1.out
  · have h1 := ownsRow_setCell_below hown2 (a := ⟨B, 0, none⟩) (by simp) (.slice A2 (L.length + 1) c2)
    rw [layCs_snoc, show (L ++ [(⟨at_, Pl.padP s, b⟩ : Pl.Lay)]).length = L.length + 1 by simp]
    rw [HP.out.2] at h1
    exact h1

theorem LaySt.lt {B : Nat} {w : World} {A : Option Addr} {c : Nat} {L : List Pl.Lay} (h : LaySt B w A c L) : B + 1 < w.heap.size := by
  rcases Nat.lt_or_ge (B + 1) w.heap.size with h1 | h1
  · exact h1
  · have := h.2.1; rw [Array.getElem?_eq_none h1] at this; cases this
theorem LaySt.cell0 {B : Nat} {w : World} {A : Option Addr} {c : Nat} {L : List Pl.Lay} (h : LaySt B w A c L) : w.cell? ⟨B, 0, none⟩ = some (.slice A L.length c) := (cell_of_row w B 0 _ _ _ h.1).trans rfl
theorem LaySt.cell1 {B : Nat} {w : World} {A : Option Addr} {c : Nat} {L : List Pl.Lay} (h : LaySt B w A c L) : w.cell? ⟨B + 1, 0, none⟩ = some (.func (.func 88) #[] #[.pointer (some ⟨B, 0, none⟩)]) := (cell_of_row w (B + 1) 0 _ _ _ h.2.1).trans rfl
theorem LaySt.below {B : Nat} {w w' : World} {A : Option Addr} {c : Nat} {L : List Pl.Lay} (h : LaySt B w A c L) (hb : Below w.heap.size w w') : LaySt B w' A c L := ⟨heap_keep h.1 hb, heap_keep h.2.1 hb, own_below h.2.2 hb⟩
theorem LaySt.drew {B : Nat} {w : World} {A : Option Addr} {c : Nat} {L : List Pl.Lay} (h : LaySt B w A c L) : LaySt B w.drew A c L := h.below ((Below.refl _ _).drew)

attribute [local go_sem] ba_cut List.drop_zero Nat.sub_zero
set_option maxRecDepth 100000 in
set_option maxHeartbeats 1000000 in
theorem lay2_any (B : Nat) (s0 : List UInt8) (count : Nat) (b : Bool) (w : World) (A0 : Option Addr) (c0 : Nat) (L0 : List Pl.Lay) (hst : LaySt B w A0 c0 L0) (hs : s0.length ≤ 100000) (hL : L0.length + count ≤ 1000) :
    Calls Tryz.prog 90 #[.string ⟨s0.toArray⟩, .int .i64 count, .bool b, .pointer (some ⟨B + 1, 0, none⟩), .pointer (some ⟨B, 0, none⟩)] w fun e w' => e = .returned (.tuple #[]) ∧ (∃ A' c', LaySt B w' A' c' (Pl.spread count L0 s0 b)) ∧ Below B w w' := by
  obtain ⟨R, hR⟩ : ∃ R, Pl.spread count L0 s0 b = R := ⟨_, rfl⟩
  rw [hR]
  have HR := Lib.hid hR; clear hR
  go_enter Tryz.func90, Tryz.ntmps90
  go_wp2_with fail
  go_loopw [0, 10] (fun t i wr => ∃ (j : Nat) (s : List UInt8) (A : Option Addr) (c : Nat) (L : List Pl.Lay), j ≤ count ∧ i = .int .i64 j ∧ t = .string ⟨s.toArray⟩ ∧ s.length ≤ 100000 ∧ L.length + (count - j) ≤ 1000 ∧ LaySt B wr A c L ∧ Below B w wr ∧ Hid (Pl.spread (count - j) L s b = R)) (fun _ i _ => count - (intOf i).toNat)
  case atStart => exact ⟨0, s0, A0, c0, L0, Nat.zero_le _, rfl, rfl, hs, by omega, hst, Below.refl _ _, HR⟩
  case round =>
    obtain ⟨j, s, A, c, L, hj, rfl, rfl, hsl, hLl, hst', hbw, H⟩ := hrel
    by_cases hlt : j < count
    · have hc0 := hst'.cell0
      have hc1 := hst'.cell1
      obtain ⟨m, hm⟩ : ∃ m : Nat, min s.length 128 = m := ⟨_, rfl⟩
      have hmi : min (s.length : Int) 128 = (m : Int) := by omega
      have hm1 : m ≤ s.length := by omega
      have hm2 : m ≤ 128 := by omega
      have hmx : s.take m = s.take 128 ∧ s.drop m = s.drop 128 := by
        rcases Nat.le_total s.length 128 with h | h
        · rw [Nat.min_eq_left h] at hm
          subst hm
          exact ⟨by rw [List.take_of_length_le (Nat.le_refl _), List.take_of_length_le h], by rw [List.drop_eq_nil_of_le (Nat.le_refl _), List.drop_eq_nil_of_le h]⟩
        · rw [Nat.min_eq_right h] at hm
          subst hm; exact ⟨rfl, rfl⟩
      obtain ⟨x, hx⟩ : ∃ x, s.take m = x := ⟨_, rfl⟩
      obtain ⟨s', hs'⟩ : ∃ s', List.take (s.length - m) (List.drop m s) = s' := ⟨_, rfl⟩
      have hs'' : s' = s.drop 128 := by rw [← hs', cut_all]; exact hmx.2
      have hxl : x.length ≤ 128 := by rw [← hx, List.length_take]; omega
      have hsl' : s'.length ≤ 100000 := by rw [hs'', List.length_drop]; omega
      have hx' : x = s.take 128 := hx.symm.trans hmx.1
      have HM := Lib.hid (And.intro hm (And.intro hx' hs'')); clear hm hmx hx' hs''
      have hm0i : (0 : Int) ≤ (m : Int) := by omega
      have hm1i : (m : Int) ≤ (s.length : Int) := by omega
      have hstd := hst'.drew
      go_wp2_with fail
      go_still_tail 7, (by kernel_rfl)
      change wpList _ _ _ _ _ wr.drew
      go_wp2_with fail
      (with_reducible refine (lay1_any B _ x b _ A c L hstd hxl (by omega)).mono ?_)
      rintro e w2 ⟨rfl, ⟨A2, c2, hst2⟩, hb2⟩
      clear hc0 hc1
      go_wp2_with fail
      go_roundw
      case rel =>
        refine ⟨j + 1, s', A2, c2, _, by omega, by go_num, rfl, hsl', by simp; omega, hst2, hbw.trans ((Below.refl _ _).drew.trans hb2), ?_⟩
        have h1 := H.out
        rw [show count - j = (count - (j + 1)) + 1 by omega, Pl.spread] at h1
        show _ = _
        rw [HM.out.2.1, HM.out.2.2]; exact h1
      case measure => simp [intOf]; omega
    · go_wp2_with fail
      refine bodyPost_end (results_none rfl _ _ _) rfl ?_
      have h1 := H.out
      rw [show count - j = 0 by omega] at h1
      exact ⟨rfl, ⟨A, c, by rw [← h1]; exact hst'⟩, hbw⟩
end Go.Proofs.YtmmnkoeajdeldaaGreatDoor
namespace Go.Proofs.YtmmnkoeajdeldaaGreatDoor
open Go.RowKit
attribute [local go_sem] ba_get ba_add

/-- A list of pages that the call made, and an error beside it. -/
def LayOut (x : Pl.Exe) (v : Value) (w : World) : Prop := ∃ A c, v = .tuple #[.slice A (if Pl.chk x = 0 then Pl.lays x else []).length c, .int .i64 (Pl.chk x : Int)] ∧ Rd w 3 A (if Pl.chk x = 0 then Pl.lays x else []).length (layCs (if Pl.chk x = 0 then Pl.lays x else []))

set_option maxRecDepth 100000 in
set_option maxHeartbeats 1000000 in
theorem lay_any (A : Option Addr) (c : Nat) (x : Pl.Exe) (w : World) (hx : ExeOk x) (ha : Rd w 1 A x.text.length (u32s x.text)) (ht : ∀ y ∈ x.text, y < 4294967296) :
    Calls Tryz.prog 50 #[exeV A c x] w (RetB (LayOut x) w) := by
  obtain ⟨k, hk⟩ : ∃ k, Pl.chk x = k := ⟨_, rfl⟩
  have hk01 : k = 0 ∨ k = 1 := by rw [← hk]; unfold Pl.chk; split <;> simp
  have hck := fun (c : Nat) (w : World) => check_any A c x w hx
  have HX := Lib.hid (And.intro hk (And.intro hx hck)); clear hk hx hck
  obtain ⟨t, d, room, entry⟩ := x
  simp only at ha ht
  have hev : exeV A c ⟨t, d, room, entry⟩ = .agg #[.slice A t.length c, .string ⟨d.toArray⟩, .int .i64 room, .int .u32 (entry : Int)] := rfl
  rw [hev]
  have HE := Lib.hid hev; clear hev
  obtain ⟨n, hnl⟩ : ∃ n, t.length = n := ⟨_, rfl⟩
  rw [hnl] at ha ⊢
  have HF := Lib.hid (And.intro hnl ht); clear hnl ht
  rcases hk01 with rfl | rfl
  · obtain ⟨g1, g2, g3, g4, g5, g6, g7, g8⟩ := chk_ok HX.out.1
    simp only at g1 g2 g3 g4 g5 g6 g7
    rw [HF.out.1] at g1 g2 g7
    clear g8
    obtain ⟨r, rfl⟩ := Int.eq_ofNat_of_zero_le g3
    go_enter Tryz.func50, Tryz.ntmps50
    go_wp2_with fail
    have hck := HX.out.2.2 c (w.alloc (.cells #[.slice A n c, .string ⟨d.toArray⟩, .int .i64 r, .int .u32 (entry : Int)] 26))
    rw [HE.out, HF.out.1, HX.out.1] at hck
    (with_reducible refine hck.mono ?_)
    rintro e w1 ⟨v, rfl, rfl, hb1⟩
    clear hck
    have hbw1 : Below w.heap.size w w1 := ((Below.refl _ _).alloc (Nat.le_refl _) _).trans (hb1.mono (by simp))
    have hbox := (Box4.new w (.slice A n c) (.string ⟨d.toArray⟩) (.int .i64 r) (.int .u32 (entry : Int)) 26).keep hb1 (by simp)
    have hsz : w.heap.size < w1.heap.size := by have := hb1.size; simp at this; omega
    have ha1 := ha.below hbw1
    clear hb1
    have hbox' := hbox
    obtain ⟨hc0, hc1, hc2, hc3⟩ := hbox'
    go_wp2_with fail
    obtain ⟨W2, hW2⟩ : ∃ W2, W2 = (w1.alloc (.cells #[.slice none 0 0] 104)).alloc (.cells #[.func (.func 88) #[] #[.pointer (some ⟨w1.heap.size, 0, none⟩)]] 146) := ⟨_, rfl⟩
    have hst2 : LaySt w1.heap.size W2 none 0 [] := by
      rw [hW2]
      refine ⟨?_, ?_, World.ownsRow_nil _ _ _ _⟩
      · rw [Below.heap_alloc _ _ _ (by simp)]; exact heap_alloc_new w1 _
      · have := heap_alloc_new (w1.alloc (.cells #[.slice none 0 0] 104)) (.cells #[.func (.func 88) #[] #[.pointer (some ⟨w1.heap.size, 0, none⟩)]] 146)
        simpa using this
    have hb2 : Below w1.heap.size w1 W2 := by
      rw [hW2]; exact ((Below.refl _ _).alloc (Nat.le_refl _) _).alloc (by simp) _
    rw [← hW2]
    clear hW2
    (with_reducible refine (words_any A n c t _ (ha1.below hb2) (by omega) HF.out.2).mono ?_)
    rintro e w3 ⟨v, rfl, rfl, hb3⟩
    have hst3 := hst2.below hb3
    have hb13 := hb2.trans (hb3.mono hb2.size)
    clear hst2 hb2 hb3 hc0 hc1 hc2 hc3
    have hwl := Pl.wordsB_len t
    rw [HF.out.1] at hwl
    obtain ⟨tx, htx⟩ : ∃ tx, Pl.wordsB t = tx := ⟨_, rfl⟩
    rw [htx] at hwl ⊢
    have htl : tx.length ≤ 4 * n := by omega
    have HW := Lib.hid (And.intro htx hwl); clear htx hwl
    go_wp2_with fail
    (with_reducible refine (pages_any _ _ ?_ ?_).mono ?_)
    · omega
    · omega
    rintro e w4 ⟨rfl, rfl⟩
    rw [Pl.pgs_int]
    have hp1 : Pl.pgs tx.length ≤ 100 := by unfold Pl.pgs; omega
    go_wp2_with fail
    (with_reducible refine (lay2_any w1.heap.size tx (Pl.pgs tx.length) false _ none 0 [] hst3 (by omega) (by simp; omega)).mono ?_)
    rintro e w5 ⟨rfl, ⟨A5, c5, hst5⟩, hb5⟩
    have hb15 := hb13.trans hb5
    obtain ⟨hc0, hc1, hc2, hc3⟩ := hbox.keep hb15 hsz
    have e1 : IntKind.i64.wrap ((d.length : Int) + r) = (d.length : Int) + r := IntWalk.i64_in _ (by omega)
    have p1 : (0 : Int) ≤ (d.length : Int) + r := by omega
    have p2 : (d.length : Int) + r ≤ 9223372036854775000 := by omega
    have hp2 : Pl.pgs (d.length + r) ≤ 100 := by unfold Pl.pgs; omega
    have hsl5 := Pl.spread_len (Pl.pgs tx.length) [] tx false
    have hsl6 : (Pl.spread (Pl.pgs tx.length) [] tx false).length ≤ 100 := by rw [hsl5]; simp; exact hp1
    clear hsl5
    have hpg := fun W : World => pages_any ((d.length : Int) + r) W p1 p2
    have hpe : Pl.pagesN ((d.length : Int) + r) = ((Pl.pgs (d.length + r) : Nat) : Int) := by rw [← Pl.pgs_int]; simp
    rw [hpe] at hpg
    clear hpe
    have HPG := Lib.hid hpg; clear hpg
    have hstD := hst5.drew
    have hdb : Below w1.heap.size w5 w5.drew := (Below.refl _ _).drew
    go_wp2_with fail
    go_region_held3 (fun w' => w'.cell? ⟨w.heap.size, 1, none⟩ = some (.string ⟨d.toArray⟩) ∧ w'.cell? ⟨w.heap.size, 2, none⟩ = some (.int .i64 r))
      (exact ⟨(hdb.cell (p := ⟨w.heap.size, 1, none⟩) hsz).trans hc1, (hdb.cell (p := ⟨w.heap.size, 2, none⟩) hsz).trans hc2⟩)
      (first
        | (go_at_call 91; (with_reducible refine (HPG.out _).mono ?_); rintro e w6 ⟨rfl, rfl⟩)
        | (go_at_call 90; (with_reducible refine (lay2_any w1.heap.size d (Pl.pgs (d.length + r)) true _ A5 c5 _ hstD (by omega) (by omega)).mono ?_); rintro e w6 ⟨rfl, ⟨A6, c6, hst6⟩, hb6⟩; replace hdb := hdb.trans hb6))
    have hlc1 := hst6.cell1
    clear hc0 hc1 hc2 hc3
    rename_i hHeld
    clear hHeld
    have hsl7 : (Pl.spread (Pl.pgs (d.length + r)) (Pl.spread (Pl.pgs tx.length) [] tx false) d true).length ≤ 200 := by rw [Pl.spread_len]; omega
    go_wp2_with fail
    (with_reducible refine (lay1_any w1.heap.size 15 [] true _ A6 c6 _ hst6 (by simp) (by omega)).mono ?_)
    rintro e w7 ⟨rfl, ⟨A7, c7, hst7⟩, hb7⟩
    have hlc7 := hst7.cell0
    have hLL : Pl.spread (Pl.pgs (d.length + r)) (Pl.spread (Pl.pgs tx.length) [] tx false) d true ++ [⟨15, Pl.padP [], true⟩] = Pl.lays ⟨t, d, r, entry⟩ := by
      unfold Pl.lays
      simp only [Int.toNat_natCast]
      rw [HF.out.1, HW.out.1, ← HW.out.2]
      rfl
    rw [hLL] at hlc7 hst7
    obtain ⟨LL, hle⟩ : ∃ LL, Pl.lays ⟨t, d, r, entry⟩ = LL := ⟨_, rfl⟩
    rw [hle] at hlc7 hst7
    have HLE := Lib.hid hle; clear hle hLL
    go_wp2_with fail
    go_ret2
    refine ⟨_, rfl, ⟨A7, c7, ?_, ?_⟩, hbw1.trans (((hb15.trans hdb).trans hb7).mono hbw1.size)⟩
    · rw [HX.out.1, if_pos rfl, HLE.out]; rfl
    · rw [if_pos HX.out.1, HLE.out]; exact Rd.own hst7.2.2
  · go_enter Tryz.func50, Tryz.ntmps50
    go_wp2_with fail
    have hck := HX.out.2.2 c (w.alloc (.cells #[.slice A n c, .string ⟨d.toArray⟩, .int .i64 room, .int .u32 (entry : Int)] 26))
    rw [HE.out, HF.out.1, HX.out.1] at hck
    (with_reducible refine hck.mono ?_)
    rintro e w1 ⟨v, rfl, rfl, hb1⟩
    clear hck
    go_wp2_with fail
    go_ret2
    refine ⟨_, rfl, ⟨none, 0, ?_, ?_⟩, ((Below.refl _ _).alloc (Nat.le_refl _) _).trans (hb1.mono (by simp))⟩
    · rw [HX.out.1]; rfl
    · rw [HX.out.1]; exact Rd.nil
end Go.Proofs.YtmmnkoeajdeldaaGreatDoor
namespace Go.Proofs.YtmmnkoeajdeldaaGreatDoor
open Go.RowKit
attribute [local go_sem] ba_get ba_add

def exe7 : Pl.Exe := ⟨[7], [], 0, 0⟩
theorem exe7_chk : Pl.chk exe7 = 0 := by decide +kernel
theorem exe7_file : (Pl.fileB exe7).length = 18 := by decide +kernel
theorem exe7_lays : Pl.lays exe7 = [⟨0, Pl.padP (Pl.putB 7 4), false⟩, ⟨15, Pl.zs 128, true⟩] := by
  have e : (List.take 128 (Pl.wordsB [7])) = Pl.putB 7 4 := by decide +kernel
  show [(⟨((0 : Nat) : Int), Pl.padP (List.take 128 (Pl.wordsB [7])), false⟩ : Pl.Lay)] ++ [_] = _
  rw [e]; rfl
theorem exe7_v (A : Option Addr) (c : Nat) : exeV A c exe7 = .agg #[.slice A 1 c, .string ⟨#[]⟩, .int .i64 0, .int .u32 0] := rfl
theorem exe7_ok : ExeOk exe7 := ⟨by decide, by decide, by decide, by decide, by decide⟩

set_option maxRecDepth 100000 in
set_option maxHeartbeats 1000000 in
theorem awake_any (w : World) : Calls Tryz.prog 18 #[] w (RetB (fun v _ => v = .bool true) w) := by
  obtain ⟨fb, hfb⟩ : ∃ fb, Pl.fileB exe7 = fb := ⟨_, rfl⟩
  have hfl : fb.length = 18 := by rw [← hfb]; exact exe7_file
  have hbv : bytesV exe7 = .tuple #[.string ⟨fb.toArray⟩, .int .i64 0] := by unfold bytesV; rw [exe7_chk, if_pos rfl, hfb]; rfl
  have hfi : ((fb.length : Int) == 18) = true := by rw [hfl]; rfl
  have HB := Lib.hid (And.intro hbv hfl); clear hbv hfl hfb
  go_enter Tryz.func18, Tryz.ntmps18
  go_wp2_with fail
  obtain ⟨W2, hW2⟩ : ∃ W2, W2 = (w.alloc (.cells #[.int .u32 7] 24)).alloc (.cells #[.slice (some ⟨w.heap.size, 0, none⟩) 1 1, .string ⟨#[]⟩, .int .i64 0, .int .u32 0] 26) := ⟨_, rfl⟩
  have hrd : Rd W2 1 (some ⟨w.heap.size, 0, none⟩) 1 (u32s [7]) := by
    rw [hW2]; exact (Rd.new w [.int .u32 7] 24).alloc _
  have hbx : Box4 W2 (w.heap.size + 1) (.slice (some ⟨w.heap.size, 0, none⟩) 1 1) (.string ⟨#[]⟩) (.int .i64 0) (.int .u32 0) := by
    rw [hW2]
    have := Box4.new (w.alloc (.cells #[.int .u32 7] 24)) (.slice (some ⟨w.heap.size, 0, none⟩) 1 1) (.string ⟨#[]⟩) (.int .i64 0) (.int .u32 0) 26
    simpa using this
  have hb2 : Below w.heap.size w W2 := by rw [hW2]; exact ((Below.refl _ _).alloc (Nat.le_refl _) _).alloc (by simp) _
  have hs2 : w.heap.size + 1 < W2.heap.size := by rw [hW2]; simp
  rw [← hW2]
  clear hW2
  have hbc := bytes_any (some ⟨w.heap.size, 0, none⟩) 1 exe7 W2 exe7_ok hrd (by decide)
  rw [HB.out.1, exe7_v] at hbc
  (with_reducible refine Calls.mono hbc ?_)
  rintro e w3 ⟨v, rfl, rfl, hb3⟩
  clear hbc
  obtain ⟨hc0, hc1, hc2, hc3⟩ := hbx.keep hb3 hs2
  go_wp2_with fail
  have hlc := lay_any (some ⟨w.heap.size, 0, none⟩) 1 exe7 w3 exe7_ok (hrd.below hb3) (by decide)
  rw [exe7_v] at hlc
  (with_reducible refine Calls.mono hlc ?_)
  rintro e w4 ⟨v, rfl, ⟨A4, c4, hv, hr4⟩, hb4⟩
  clear hlc hc0 hc1 hc2 hc3
  simp only [exe7_chk, if_true, exe7_lays] at hv hr4
  subst hv
  obtain ⟨b, off, rfl, hlt, hc⟩ := hr4.all (by simp)
  have hd0 : w4.cell? ⟨b, off, none⟩ = some (.int .i64 0) := hc 0 (by simp [layCs, layC])
  have hd3 : w4.cell? ⟨b, off + 3, none⟩ = some (.int .i64 15) := hc 3 (by simp [layCs, layC])
  clear hc hr4
  have hbf : Below w.heap.size w w4 := (hb2.trans (hb3.mono hb2.size)).trans (hb4.mono (hb2.trans (hb3.mono hb2.size)).size)
  go_wp2_with fail
  go_ret
  exact ⟨_, rfl, rfl, hbf⟩

/-- More than is gone through? -/
def great (x : Pl.Exe) : Bool := decide (600 < x.text.length ∨ 3000 < x.data.length)
end Go.Proofs.YtmmnkoeajdeldaaGreatDoor
namespace Go.Proofs.YtmmnkoeajdeldaaGreatDoor.Pl

def textOf (L : List Lay) : List UInt8 := L.flatMap fun l => if l.write then [] else l.data
def dataOf (L : List Lay) : List UInt8 := L.flatMap fun l => if l.write then l.data else []

theorem chunks (u : List UInt8) : ∀ p, 128 * p ≤ u.length → (List.range p).flatMap (fun i => (u.drop (128 * i)).take 128) = u.take (128 * p)
  | 0, _ => by simp
  | p + 1, h => by
    rw [List.range_succ, List.flatMap_append, chunks u p (by omega)]
    simp only [List.flatMap_cons, List.flatMap_nil, List.append_nil]
    rw [show 128 * (p + 1) = 128 * p + 128 by omega, List.take_add]
theorem pages_flat (s : List UInt8) (p : Nat) (h : s.length ≤ 128 * p) : (List.range p).flatMap (fun i => pageAt s i) = s ++ zs (128 * p - s.length) := by
  have hl : (s ++ zs (128 * p - s.length)).length = 128 * p := by rw [List.length_append, zs_len]; omega
  have h1 := chunks (s ++ zs (128 * p - s.length)) p (by omega)
  rw [List.take_of_length_le (by omega)] at h1
  rw [← h1]
  rw [List.flatMap_def, List.flatMap_def]
  congr 1
  apply List.map_congr_left
  intro i hi
  rw [pad_page s (128 * p) i h (by have := List.mem_range.1 hi; omega)]
theorem lays_eq (x : Exe) : lays x = (List.range (pgs (4 * x.text.length))).map (fun i => ⟨(i : Int), pageAt (wordsB x.text) i, false⟩) ++ ((List.range (pgs (x.data.length + x.room.toNat))).map (fun i => ⟨((pgs (4 * x.text.length) + i : Nat) : Int), pageAt x.data i, true⟩) ++ [⟨15, zs 128, true⟩]) := by
  unfold lays
  rw [spread_eq (pgs (x.data.length + x.room.toNat)), spread_len, spread_eq]
  simp
theorem textOf_lays (x : Exe) : textOf (lays x) = wordsB x.text ++ zs (128 * pgs (4 * x.text.length) - 4 * x.text.length) := by
  have h := pages_flat (wordsB x.text) (pgs (4 * x.text.length)) (by rw [wordsB_len]; unfold pgs; omega)
  rw [wordsB_len] at h
  rw [← h, lays_eq]
  simp [textOf, List.flatMap_append, List.flatMap_map]
theorem dataOf_lays (x : Exe) : dataOf (lays x) = x.data ++ (zs (128 * pgs (x.data.length + x.room.toNat) - x.data.length) ++ zs 128) := by
  have h := pages_flat x.data (pgs (x.data.length + x.room.toNat)) (by unfold pgs; omega)
  rw [← List.append_assoc, ← h, lays_eq]
  simp [dataOf, List.flatMap_append, List.flatMap_map]
theorem textOf_take (L : List Lay) (j : Nat) (h : j < L.length) : textOf (L.take (j + 1)) = textOf (L.take j) ++ (if L[j].write then [] else L[j].data) := by
  unfold textOf; rw [List.take_succ_eq_append_getElem h, List.flatMap_append]; simp only [List.flatMap_cons, List.flatMap_nil, List.append_nil]
theorem dataOf_take (L : List Lay) (j : Nat) (h : j < L.length) : dataOf (L.take (j + 1)) = dataOf (L.take j) ++ (if L[j].write then L[j].data else []) := by
  unfold dataOf; rw [List.take_succ_eq_append_getElem h, List.flatMap_append]; simp only [List.flatMap_cons, List.flatMap_nil, List.append_nil]
theorem pageAt_len (s : List UInt8) (i : Nat) : (pageAt s i).length = 128 := padP_len _ (by rw [List.length_take]; omega)
theorem lays_len (x : Exe) : (lays x).length = pgs (4 * x.text.length) + pgs (x.data.length + x.room.toNat) + 1 := by rw [lays_eq]; simp; omega
/-- Each page has 128 bytes. -/
theorem lays_page (x : Exe) : ∀ l ∈ lays x, l.data.length = 128 := by
  intro l hl
  rw [lays_eq] at hl
  simp only [List.mem_append, List.mem_map, List.mem_singleton] at hl
  rcases hl with ⟨i, _, rfl⟩ | ⟨i, _, rfl⟩ | rfl
  · exact pageAt_len _ _
  · exact pageAt_len _ _
  · exact zs_len _
/-- A page's number. -/
theorem lays_at (x : Exe) (i : Nat) (h : i < (lays x).length) : (lays x)[i].at_ = if i < pgs (4 * x.text.length) + pgs (x.data.length + x.room.toNat) then (i : Int) else 15 := by
  simp only [lays_eq] at h ⊢
  by_cases h1 : i < pgs (4 * x.text.length)
  · rw [List.getElem_append_left (by simpa using h1), if_pos (by omega)]; simp
  · rw [List.getElem_append_right (by simpa using h1)]
    simp only [List.length_map, List.length_range]
    by_cases h2 : i - pgs (4 * x.text.length) < pgs (x.data.length + x.room.toNat)
    · rw [List.getElem_append_left (by simpa using h2), if_pos (by omega)]; simp; omega
    · rw [List.getElem_append_right (by simpa using h2), if_neg (by omega)]
      simp at h
      have : i - pgs (4 * x.text.length) - pgs (x.data.length + x.room.toNat) = 0 := by omega
      simp [this]
theorem wordsB_at : ∀ (t : List Nat) (i : Nat) (h : i < t.length) (s : List UInt8), ((wordsB t ++ s).drop (4 * i)).take 4 = putB t[i] 4
  | w :: t, 0, _, s => by
    simp only [Nat.mul_zero, List.drop_zero, wordsB, List.append_assoc, List.getElem_cons_zero]
    rw [List.take_append_of_le_length (by rw [putB_len]; omega), List.take_of_length_le (by rw [putB_len]; omega)]
  | w :: t, i + 1, h, s => by
    have e : (wordsB (w :: t) ++ s).drop (4 * (i + 1)) = (wordsB t ++ s).drop (4 * i) := by
      rw [wordsB, List.append_assoc, List.drop_append, List.drop_eq_nil_of_le (by rw [putB_len]; omega), putB_len]
      simp; congr 1
    rw [e, wordsB_at t i (by simpa using h) s]; simp
theorem getN_word (w : Nat) (h : w < 4294967296) : getN ((putB w 4).take 8) = w := by
  rw [List.take_of_length_le (by rw [putB_len]; omega), getN_putB]
  exact Nat.mod_eq_of_lt (by simpa using h)
theorem zs_get (n i : Nat) (h : i < (zs n).length) : (zs n)[i] = 0 := by simp [zs]
theorem mem_at {α : Type} (L : List α) (P : α → Prop) (h : ∀ l ∈ L, P l) (i : Nat) (hi : i < L.length) : P L[i] := h _ (List.getElem_mem hi)
theorem textOf_le (L : List Lay) (h : ∀ l ∈ L, l.data.length = 128) : (textOf L).length ≤ 128 * L.length := by
  induction L with
  | nil => simp [textOf]
  | cons l L ih =>
    have := ih (fun y hy => h y (List.mem_cons_of_mem _ hy))
    have h1 := h l List.mem_cons_self
    simp only [textOf, List.flatMap_cons, List.length_append, List.length_cons] at this ⊢
    split <;> first | omega | (simp only [List.length_nil]; omega)
theorem dataOf_le (L : List Lay) (h : ∀ l ∈ L, l.data.length = 128) : (dataOf L).length ≤ 128 * L.length := by
  induction L with
  | nil => simp [dataOf]
  | cons l L ih =>
    have := ih (fun y hy => h y (List.mem_cons_of_mem _ hy))
    have h1 := h l List.mem_cons_self
    simp only [dataOf, List.flatMap_cons, List.length_append, List.length_cons] at this ⊢
    split <;> first | omega | (simp only [List.length_nil]; omega)
theorem take_le (L : List Lay) (h : ∀ l ∈ L, l.data.length = 128) (j : Nat) (hj : j ≤ L.length) : (textOf (L.take j)).length ≤ 128 * j ∧ (dataOf (L.take j)).length ≤ 128 * j := by
  have h' : ∀ l ∈ L.take j, l.data.length = 128 := fun l hl => h l (List.mem_of_mem_take hl)
  have a := textOf_le _ h'
  have b := dataOf_le _ h'
  rw [List.length_take, Nat.min_eq_left hj] at a b
  exact ⟨a, b⟩
/-- What the pages of a good program hold. -/
structure PagesOk (x : Exe) (L : List Lay) : Prop where
  len : L.length ≤ 15
  page : ∀ l ∈ L, l.data.length = 128
  up : ∀ (i j : Nat) (hi : i < L.length) (hj : j < L.length), i < j → L[i].at_ < L[j].at_
  t1 : 4 * x.text.length ≤ (textOf L).length
  t2 : (textOf L).length < 4 * x.text.length + 128
  d1 : (x.data.length : Int) + x.room + 128 ≤ ((dataOf L).length : Int)
  word : ∀ (i : Nat) (h : i < x.text.length), ((textOf L).drop (4 * i)).take 4 = putB x.text[i] 4
  data : (dataOf L).take x.data.length = x.data
  rest : ∀ (i : Nat) (h : i < ((textOf L).drop (4 * x.text.length) ++ (dataOf L).drop x.data.length).length), ((textOf L).drop (4 * x.text.length) ++ (dataOf L).drop x.data.length)[i] = 0
theorem pagesOk (x : Exe) (h0 : 0 ≤ x.room) (hp : pgs (4 * x.text.length) + pgs (x.data.length + x.room.toNat) ≤ 14) : PagesOk x (lays x) where
  len := by rw [lays_len]; omega
  page := lays_page x
  up i j hi hj hij := by
    rw [lays_at x i hi, lays_at x j hj]
    rw [lays_len] at hi hj
    split <;> split <;> omega
  t1 := by rw [textOf_lays, List.length_append, wordsB_len]; omega
  t2 := by rw [textOf_lays, List.length_append, wordsB_len, zs_len]; unfold pgs; omega
  d1 := by rw [dataOf_lays, List.length_append, List.length_append, zs_len, zs_len]; unfold pgs; omega
  word i h := by rw [textOf_lays, wordsB_at x.text i h]
  data := by rw [dataOf_lays, List.take_append_of_le_length (Nat.le_refl _), List.take_length]
  rest := by
    have e : (textOf (lays x)).drop (4 * x.text.length) ++ (dataOf (lays x)).drop x.data.length = zs ((128 * pgs (4 * x.text.length) - 4 * x.text.length) + ((128 * pgs (x.data.length + x.room.toNat) - x.data.length) + 128)) := by
      rw [textOf_lays, dataOf_lays, show 4 * x.text.length = (wordsB x.text).length by rw [wordsB_len], List.drop_left, List.drop_left]
      simp [zs, ← List.replicate_append_replicate]
    rw [e]
    exact fun i h => zs_get _ i h
end Go.Proofs.YtmmnkoeajdeldaaGreatDoor.Pl
namespace Go.Proofs.YtmmnkoeajdeldaaGreatDoor.Pl

def fieldN (b : List UInt8) (a s : Nat) : Nat := getN ((b.drop a).take s)
def noExe : Exe := ⟨[], [], 0, 0⟩
def bodyE (b : List UInt8) : Exe := ⟨(List.range (fieldN b 8 2)).map (fun i => fieldN b (14 + 4 * i) 4), b.drop (14 + 4 * fieldN b 8 2), (fieldN b 12 2 : Int), fieldN b 4 4⟩
def magicB : List UInt8 := [104, 105, 98, 120]
def headBad (b : List UInt8) : Bool := decide (b.take (min b.length 4) ≠ magicB.take (min b.length 4))
def ofE (b : List UInt8) : Nat :=
  if headBad b then 3 else if b.length < 14 then 4 else if b.length < 14 + 4 * fieldN b 8 2 + fieldN b 10 2 then 4 else if 14 + 4 * fieldN b 8 2 + fieldN b 10 2 < b.length then 3 else if chk (bodyE b) = 0 then 0 else 3
def ofX (b : List UInt8) : Exe := if ofE b = 0 then bodyE b else noExe

theorem fieldN_lt (b : List UInt8) (a s : Nat) : fieldN b a s < 256 ^ s := by
  unfold fieldN
  refine Nat.lt_of_lt_of_le (getN_lt _) (Nat.pow_le_pow_right (by omega) (by rw [List.length_take]; omega))
theorem fieldN_2 (b : List UInt8) (a : Nat) : fieldN b a 2 < 65536 := by simpa using fieldN_lt b a 2
theorem fieldN_4 (b : List UInt8) (a : Nat) : fieldN b a 4 < 4294967296 := by simpa using fieldN_lt b a 4
theorem field_mid (p q r : List UInt8) (a s : Nat) (h1 : p.length = a) (h2 : q.length = s) : fieldN (p ++ (q ++ r)) a s = getN q := by
  subst h1 h2
  unfold fieldN
  rw [List.drop_left, List.take_left]
theorem field_take (b : List UInt8) (k a s : Nat) (h : a + s ≤ k) : fieldN (b.take k) a s = fieldN b a s := by
  unfold fieldN
  rw [List.drop_take, List.take_take, Nat.min_eq_left (by omega)]
theorem field_more (b c : List UInt8) (a s : Nat) (h : a + s ≤ b.length) : fieldN (b ++ c) a s = fieldN b a s := by
  rw [← field_take (b ++ c) b.length a s h, List.take_left]
theorem get_put (n k : Nat) (h : n < 256 ^ k) : getN (putB n k) = n := by rw [getN_putB, Nat.mod_eq_of_lt h]

section
variable (x : Exe) (hc : chkB x = false) (hw : ∀ y ∈ x.text, y < 4294967296)
theorem fileB_len : (fileB x).length = 14 + 4 * x.text.length + x.data.length := by
  simp [fileB, putB_len, wordsB_len]; omega
include hc in
theorem file_fields : fieldN (fileB x) 8 2 = x.text.length ∧ fieldN (fileB x) 10 2 = x.data.length ∧ (fieldN (fileB x) 12 2 : Int) = x.room ∧ fieldN (fileB x) 4 4 = x.entry := by
  have h := of_decide_eq_false hc
  refine ⟨?_, ?_, ?_, ?_⟩
  · rw [show fileB x = ([104, 105, 98, 120] ++ putB x.entry 4) ++ (putB x.text.length 2 ++ (putB x.data.length 2 ++ (putB x.room.toNat 2 ++ (wordsB x.text ++ x.data)))) by simp [fileB],
      field_mid _ _ _ 8 2 (by simp [putB_len]) (putB_len _ _), get_put _ _ (by omega)]
  · rw [show fileB x = ([104, 105, 98, 120] ++ (putB x.entry 4 ++ putB x.text.length 2)) ++ (putB x.data.length 2 ++ (putB x.room.toNat 2 ++ (wordsB x.text ++ x.data))) by simp [fileB],
      field_mid _ _ _ 10 2 (by simp [putB_len]) (putB_len _ _), get_put _ _ (by omega)]
  · rw [show fileB x = ([104, 105, 98, 120] ++ (putB x.entry 4 ++ (putB x.text.length 2 ++ putB x.data.length 2))) ++ (putB x.room.toNat 2 ++ (wordsB x.text ++ x.data)) by simp [fileB],
      field_mid _ _ _ 12 2 (by simp [putB_len]) (putB_len _ _), get_put _ _ (by omega)]
    omega
  · rw [show fileB x = [104, 105, 98, 120] ++ (putB x.entry 4 ++ (putB x.text.length 2 ++ (putB x.data.length 2 ++ (putB x.room.toNat 2 ++ (wordsB x.text ++ x.data))))) from rfl,
      field_mid _ _ _ 4 4 rfl (putB_len _ _), get_put _ _ (by omega)]
theorem file_drop14 : (fileB x).drop 14 = wordsB x.text ++ x.data := by
  rw [show fileB x = ([104, 105, 98, 120] ++ (putB x.entry 4 ++ (putB x.text.length 2 ++ (putB x.data.length 2 ++ putB x.room.toNat 2)))) ++ (wordsB x.text ++ x.data) by simp [fileB]]
  rw [List.drop_left' (by simp [putB_len])]
include hw in
theorem file_word (i : Nat) (h : i < x.text.length) : fieldN (fileB x) (14 + 4 * i) 4 = x.text[i] := by
  unfold fieldN
  rw [← List.drop_drop, file_drop14, wordsB_at x.text i h, get_put _ _ (by have := hw _ (List.getElem_mem h); omega)]
include hc hw in
theorem body_file : bodyE (fileB x) = x := by
  obtain ⟨h1, h2, h3, h4⟩ := file_fields x hc
  unfold bodyE
  rw [h1, h3, h4, ← List.drop_drop, file_drop14, List.drop_left' (by rw [wordsB_len])]
  have : (List.range x.text.length).map (fun i => fieldN (fileB x) (14 + 4 * i) 4) = x.text := by
    apply List.ext_getElem (by simp)
    intro i h1 h2
    simp only [List.getElem_map, List.getElem_range]
    exact file_word x hw i h2
  rw [this]
theorem head_take (r : List UInt8) (k : Nat) : headBad ((magicB ++ r).take k) = false := by
  unfold headBad
  apply decide_eq_false
  rw [Classical.not_not, List.take_take, Nat.min_eq_left (by rw [List.length_take]; omega)]
  rw [List.take_append_of_le_length (by simp [magicB]; omega)]
theorem head_ok (r : List UInt8) : headBad (magicB ++ r) = false := by
  have := head_take r (magicB ++ r).length
  rwa [List.take_length] at this
include hc in
theorem ofE_more : ofE (fileB x ++ [120]) = 3 := by
  obtain ⟨h1, h2, h3, h4⟩ := file_fields x hc
  have hl := fileB_len x
  unfold ofE
  rw [field_more _ _ _ _ (by omega), field_more _ _ _ _ (by omega), h1, h2]
  have hh : headBad (fileB x ++ [120]) = false := by
    rw [show fileB x ++ [120] = magicB ++ ((putB x.entry 4 ++ (putB x.text.length 2 ++ (putB x.data.length 2 ++ (putB x.room.toNat 2 ++ (wordsB x.text ++ x.data))))) ++ [120]) by simp [fileB, magicB]]
    exact head_ok _
  rw [hh, if_neg (by simp), if_neg (by simp; omega), if_neg (by simp; omega), if_pos (by simp; omega)]
include hc in
theorem ofE_cut (k : Nat) (hk : k < (fileB x).length) : ofE ((fileB x).take k) = 4 := by
  obtain ⟨h1, h2, h3, h4⟩ := file_fields x hc
  have hl := fileB_len x
  have hkl : ((fileB x).take k).length = k := by rw [List.length_take]; omega
  unfold ofE
  have hh : headBad ((fileB x).take k) = false := by
    rw [show fileB x = magicB ++ (putB x.entry 4 ++ (putB x.text.length 2 ++ (putB x.data.length 2 ++ (putB x.room.toNat 2 ++ (wordsB x.text ++ x.data))))) by simp [fileB, magicB]]
    exact head_take _ _
  rw [hh, hkl, if_neg (by simp)]
  by_cases h14 : k < 14
  · rw [if_pos h14]
  · rw [if_neg h14, field_take _ _ _ _ (by omega), field_take _ _ _ _ (by omega), h1, h2, if_pos (by omega)]
include hc hw in
theorem ofE_file : ofE (fileB x) = 0 := by
  obtain ⟨h1, h2, h3, h4⟩ := file_fields x hc
  have hl := fileB_len x
  unfold ofE
  have hh : headBad (fileB x) = false := by
    rw [show fileB x = magicB ++ (putB x.entry 4 ++ (putB x.text.length 2 ++ (putB x.data.length 2 ++ (putB x.room.toNat 2 ++ (wordsB x.text ++ x.data))))) by simp [fileB, magicB]]
    exact head_ok _
  rw [hh, h1, h2, body_file x hc hw, if_neg (by simp), if_neg (by omega), if_neg (by omega), if_neg (by omega), if_pos (by simp [chk, hc])]
end

theorem cut_step (b : List UInt8) (a s : Nat) : (b.drop a).take s ++ b.drop (a + s) = b.drop a := by
  rw [← List.drop_drop, List.take_append_drop]
theorem put_field (b : List UInt8) (a s : Nat) (h : a + s ≤ b.length) : putB (fieldN b a s) s = (b.drop a).take s := by
  have := putB_getN ((b.drop a).take s)
  rw [List.length_take, List.length_drop, Nat.min_eq_left (by omega)] at this
  exact this
theorem words_of (b : List UInt8) : ∀ c, 14 + 4 * c ≤ b.length → wordsB ((List.range c).map (fun i => fieldN b (14 + 4 * i) 4)) = (b.drop 14).take (4 * c)
  | 0, _ => by simp [wordsB]
  | c + 1, h => by
    rw [List.range_succ, List.map_append, List.map_cons, List.map_nil, wordsB_snoc, words_of b c (by omega), put_field b _ 4 (by omega), ← List.drop_drop, show 4 * (c + 1) = 4 * c + 4 by omega, List.take_add]
theorem ofE_ok {b : List UInt8} (h : ofE b = 0) : headBad b = false ∧ 14 ≤ b.length ∧ b.length = 14 + 4 * fieldN b 8 2 + fieldN b 10 2 ∧ chk (bodyE b) = 0 := by
  unfold ofE at h
  cases hh : headBad b
  · simp only [hh, Bool.false_eq_true, if_false] at h
    split at h
    · omega
    split at h
    · omega
    split at h
    · omega
    split at h
    · next h1 h2 h3 h4 => exact ⟨rfl, by omega, by omega, h4⟩
    · omega
  · simp [hh] at h
theorem file_body {b : List UInt8} (h : ofE b = 0) : fileB (bodyE b) = b := by
  obtain ⟨h1, h2, h3, h4⟩ := ofE_ok h
  have hm : b.take 4 = [104, 105, 98, 120] := by
    have := of_decide_eq_false h1
    rw [Classical.not_not, Nat.min_eq_right (by omega)] at this
    exact this
  have hd : (b.drop (14 + 4 * fieldN b 8 2)).length = fieldN b 10 2 := by rw [List.length_drop]; omega
  unfold fileB bodyE
  simp only [List.length_map, List.length_range, hd, Int.toNat_natCast]
  rw [words_of b _ (by omega), put_field b 4 4 (by omega), put_field b 8 2 (by omega), put_field b 10 2 (by omega), put_field b 12 2 (by omega), ← hm, cut_step b 14, cut_step b 12 2, cut_step b 10 2, cut_step b 8 2, cut_step b 4 4]
  exact List.take_append_drop 4 b
theorem ofX_text_lt (b : List UInt8) : ∀ y ∈ (ofX b).text, y < 4294967296 := by
  unfold ofX
  split
  · intro y hy
    obtain ⟨i, _, rfl⟩ := List.mem_map.1 hy
    exact fieldN_4 _ _
  · intro y hy; cases hy
end Go.Proofs.YtmmnkoeajdeldaaGreatDoor.Pl
namespace Go.Proofs.YtmmnkoeajdeldaaGreatDoor
open Go.RowKit
set_option linter.unusedVariables false
attribute [local go_sem] ba_get ba_cut ba_add

set_option maxRecDepth 100000 in
set_option maxHeartbeats 1000000 in
theorem same_eq (A A' : Option Addr) (c c' : Nat) (x : Pl.Exe) (w : World) (hx : ExeOk x) (ha : Rd w 1 A x.text.length (u32s x.text)) (hb : Rd w 1 A' x.text.length (u32s x.text)) :
    Calls Tryz.prog 22 #[exeV A c x, exeV A' c' x] w (RetB (fun v _ => v = .bool true) w) := by
  have hnn := hx.n
  clear hx
  obtain ⟨t, d, room, entry⟩ := x
  have hu := fun i h => u32s_get t i h
  simp only at ha hb hnn
  unfold exeV
  simp only
  obtain ⟨n, hn⟩ : ∃ n, t.length = n := ⟨_, rfl⟩
  rw [hn] at ha hb hnn ⊢
  have HU := Lib.hid (And.intro hu hn); clear hu hn
  go_enter Tryz.func22, Tryz.ntmps22
  go_wp2_with fail
  obtain ⟨W, hW⟩ : ∃ W, W = (w.alloc (.cells #[.slice A n c, .string ⟨d.toArray⟩, .int .i64 room, .int .u32 (entry : Int)] 26)).alloc (.cells #[.slice A' n c', .string ⟨d.toArray⟩, .int .i64 room, .int .u32 (entry : Int)] 26) := ⟨_, rfl⟩
  have hbw : Below w.heap.size w W := by rw [hW]; exact ((Below.refl _ _).alloc (Nat.le_refl _) _).alloc (by simp) _
  have haW := ha.below hbw
  have hbW := hb.below hbw
  have hc0 : W.cell? ⟨w.heap.size, 0, none⟩ = some (.slice A n c) := by rw [hW]; simp [go_sem]
  have hc1 : W.cell? ⟨w.heap.size + 1, 0, none⟩ = some (.slice A' n c') := by rw [hW]; simp [go_sem]
  rw [← hW]
  clear hW ha hb
  go_loopw [37] (fun i wr => ∃ (j q : Nat), j ≤ n ∧ i = .int .i64 j ∧ wr = W.drewN q) (fun i _ => n - (intOf i).toNat)
  case atStart => exact ⟨0, 0, by omega, rfl, rfl⟩
  case round =>
    obtain ⟨j, q, hj, rfl, rfl⟩ := hrel
    by_cases hlt : j < n
    · obtain ⟨b, o, rfl, -, pc⟩ := haW.at1 hlt
      obtain ⟨b', o', rfl, -, pc'⟩ := hbW.at1 hlt
      rw [HU.out.1 j (by rw [HU.out.2]; exact hlt)] at pc pc'
      obtain ⟨y, hy⟩ : ∃ y : Nat, t[j]'(by rw [HU.out.2]; exact hlt) = y := ⟨_, rfl⟩
      rw [hy] at pc pc'
      clear hy
      go_wp2_with fail
      go_quiet (fail)
      go_wp2_with fail
      go_roundw
      case rel => exact ⟨j + 1, _, by omega, by go_num, rfl⟩
      case measure => simp [intOf]; omega
    · go_wp2_with fail
      go_ret
      exact ⟨_, rfl, rfl, below_drewN hbw _⟩

/-- The field's function: the variable b lies in block B. -/
theorem field_any (B : Nat) (l : List UInt8) (a s : Nat) (w : World) (hc : w.cell? ⟨B, 0, none⟩ = some (.string ⟨l.toArray⟩)) (hl : l.length ≤ 9223372036854775807) (hs : s ≤ 4) (ha : a + s ≤ l.length) :
    Calls Tryz.prog 55 #[.int .i64 (a : Int), .int .i64 (s : Int), .pointer (some ⟨B, 0, none⟩)] w (Ret (.int .i64 (Pl.fieldN l a s : Int)) w) := by
  have hg : ∀ w, Calls Tryz.prog 56 #[.string ⟨((l.drop a).take s).toArray⟩] w (Ret (.int .u64 (Pl.fieldN l a s : Int)) w) := by
    intro w
    have := get_any ((l.drop a).take s) (by rw [List.length_take]; omega) w
    rw [List.take_take, Nat.min_eq_right (by omega)] at this
    exact this
  have hf := Pl.fieldN_lt l a s
  have hf4 : (256 : Nat) ^ s ≤ 256 ^ 4 := Nat.pow_le_pow_right (by omega) hs
  have hfl : Pl.fieldN l a s < 4294967296 := by omega
  clear hf hf4
  obtain ⟨v, hv⟩ : ∃ v, Pl.fieldN l a s = v := ⟨_, rfl⟩
  rw [hv] at hg hfl ⊢
  clear hv
  have hs1 : IntKind.i64.wrap ((a : Int) + (s : Int)) = (a : Int) + (s : Int) := IntWalk.i64_in _ (by omega)
  have hs2 : ((a : Int) + (s : Int)).toNat = a + s := by omega
  have hs3 : (a : Int) + (s : Int) ≤ (l.length : Int) := by omega
  have hs4 : (a : Int) ≤ (a : Int) + (s : Int) := by omega
  have hs5 : a + s - a = s := by omega
  have hs6 : (0 : Int) ≤ (a : Int) + (s : Int) := by omega
  have hs7 : IntKind.i64.wrap (v : Int) = v := IntWalk.i64_in _ (by omega)
  have HG := Lib.hid hg; clear hg
  go_enter Tryz.func55, Tryz.ntmps55
  go_wp2_with fail
  (with_reducible refine (HG.out _).mono ?_)
  rintro e w1 ⟨rfl, rfl⟩
  go_wp2_with fail
  go_ret
  exact ⟨rfl, rfl⟩
theorem field_int (B : Nat) (l : List UInt8) (a s : Nat) (ia iz : Int) (h1 : ia = a) (h2 : iz = s) (w : World) (hc : w.cell? ⟨B, 0, none⟩ = some (.string ⟨l.toArray⟩)) (hl : l.length ≤ 9223372036854775807) (hs : s ≤ 4) (ha : a + s ≤ l.length) :
    Calls Tryz.prog 55 #[.int .i64 ia, .int .i64 iz, .pointer (some ⟨B, 0, none⟩)] w (Ret (.int .i64 (Pl.fieldN l a s : Int)) w) := by
  subst h1 h2; exact field_any B l a s w hc hl hs ha
end Go.Proofs.YtmmnkoeajdeldaaGreatDoor
namespace Go.Proofs.YtmmnkoeajdeldaaGreatDoor
open Go.RowKit
set_option linter.unusedVariables false
attribute [local go_sem] ba_get ba_cut ba_add

/-- What Of gives. -/
def OfOut (b : List UInt8) (v : Value) (w : World) : Prop := ∃ A c, v = .tuple #[exeV A c (Pl.ofX b), .int .i64 (Pl.ofE b : Int)] ∧ Rd w 1 A (Pl.ofX b).text.length (u32s (Pl.ofX b).text)
theorem ofOut_no {b : List UInt8} {k : Nat} (h : Pl.ofE b = k) (hk : k ≠ 0) (w : World) : OfOut b (.tuple #[.agg #[.slice none 0 0, .string ⟨#[]⟩, .int .i64 0, .int .u32 0], .int .i64 (k : Int)]) w := by
  refine ⟨none, 0, ?_, ?_⟩
  · unfold Pl.ofX; rw [h, if_neg hk]; rfl
  · unfold Pl.ofX; rw [h, if_neg hk]; exact Rd.zero

set_option maxRecDepth 100000 in
set_option maxHeartbeats 1000000 in
theorem of_bad (b : List UInt8) (w : World) (hb : b.length ≤ 140737488355328) (hbad : Pl.headBad b = true ∨ b.length < 14 ∨ b.length ≠ 14 + 4 * Pl.fieldN b 8 2 + Pl.fieldN b 10 2) :
    Calls Tryz.prog 21 #[.string ⟨b.toArray⟩] w (RetB (OfOut b) w) := by
  obtain ⟨m, hm⟩ : ∃ m, min b.length 4 = m := ⟨_, rfl⟩
  have hm4 : m ≤ 4 := by omega
  have hmb : m ≤ b.length := by omega
  have hmi : min (b.length : Int) 4 = (m : Int) := by omega
  obtain ⟨r, hr⟩ : ∃ r, (b.take m == ([104, 105, 98, 120] : List UInt8).take m) = r := ⟨_, rfl⟩
  have hhb : Pl.headBad b = !r := by unfold Pl.headBad Pl.magicB; rw [hm, ← hr, Bool.eq_iff_iff]; simp
  cases r
  · have hE : Pl.ofE b = 3 := by unfold Pl.ofE; rw [hhb]; rfl
    have HE := Lib.hid (And.intro hE hm); clear hE hm hhb
    go_enter Tryz.func21, Tryz.ntmps21
    go_wp2_with fail
    go_quiet (fail)
    go_wp2_with fail
    refine bodyPost_ret (v := .tuple #[.agg #[.slice none 0 0, .string ⟨#[]⟩, .int .i64 0, .int .u32 0], .int .i64 3]) (by simp [results, Tryz.results21, go_sem]) rfl ?_
    refine ⟨_, rfl, ofOut_no HE.out.1 (by decide) _, ?_⟩
    exact (((((below_drewN (((Below.refl _ _).alloc (Nat.le_refl _) _).alloc (by simp) _) _).setCell (by simp) _).setCell (by simp) _).setCell (by simp) _).setCell (by simp) _)
  have hf8 := Pl.fieldN_2 b 8
  have hf10 := Pl.fieldN_2 b 10
  have hf12 := Pl.fieldN_2 b 12
  have hf4 := Pl.fieldN_4 b 4
  by_cases h14 : b.length < 14
  · have hE : Pl.ofE b = 4 := by unfold Pl.ofE; rw [hhb]; simp [h14]
    have HE := Lib.hid (And.intro hE hm); clear hE hm hhb
    have h14' : decide ((b.length : Int) < 14) = true := decide_eq_true (by omega)
    go_enter Tryz.func21, Tryz.ntmps21
    go_wp2_with fail
    go_quiet (fail)
    go_wp2_with fail
    refine bodyPost_ret (v := .tuple #[.agg #[.slice none 0 0, .string ⟨#[]⟩, .int .i64 0, .int .u32 0], .int .i64 4]) (by simp [results, Tryz.results21, go_sem]) rfl ?_
    refine ⟨_, rfl, ofOut_no HE.out.1 (by decide) _, ?_⟩
    exact (((((below_drewN (((Below.refl _ _).alloc (Nat.le_refl _) _).alloc (by simp) _) _).setCell (by simp) _).setCell (by simp) _).setCell (by simp) _).setCell (by simp) _)
  have h14' : decide ((b.length : Int) < 14) = false := decide_eq_false (by omega)
  have hfa := fun (B a s : Nat) (ia iz : Int) (h1 : ia = a) (h2 : iz = s) (w : World) => field_int B b a s ia iz h1 h2 w
  have HF := Lib.hid hfa; clear hfa
  obtain ⟨k, hk⟩ : ∃ k, Pl.fieldN b 8 2 = k := ⟨_, rfl⟩
  obtain ⟨z, hz⟩ : ∃ z, Pl.fieldN b 10 2 = z := ⟨_, rfl⟩
  obtain ⟨rm, hrm⟩ : ∃ z, Pl.fieldN b 12 2 = z := ⟨_, rfl⟩
  obtain ⟨en, hen⟩ : ∃ z, Pl.fieldN b 4 4 = z := ⟨_, rfl⟩
  have hEq : Pl.ofE b = if b.length < 14 + 4 * k + z then 4 else if 14 + 4 * k + z < b.length then 3 else if Pl.chk (Pl.bodyE b) = 0 then 0 else 3 := by
    unfold Pl.ofE; rw [hhb, hk, hz]; simp [h14]
  rw [hk] at hf8
  rw [hz] at hf10
  rw [hrm] at hf12
  rw [hen] at hf4
  have HK := Lib.hid (And.intro hk (And.intro hz (And.intro hrm (And.intro hen (And.intro hEq (And.intro hm hhb)))))); clear hk hz hrm hen hEq hm hhb
  have e1 : IntKind.i64.wrap (4 * (k : Int)) = 4 * (k : Int) := IntWalk.i64_in _ (by omega)
  have e2 : IntKind.i64.wrap (14 + 4 * (k : Int)) = 14 + 4 * (k : Int) := IntWalk.i64_in _ (by omega)
  have e3 : IntKind.i64.wrap (14 + 4 * (k : Int) + (z : Int)) = 14 + 4 * (k : Int) + (z : Int) := IntWalk.i64_in _ (by omega)
  by_cases hlo : b.length < 14 + 4 * k + z
  · have hE : Pl.ofE b = 4 := by rw [HK.out.2.2.2.2.1, if_pos hlo]
    have HE := Lib.hid hE; clear hE
    have hlo' : decide ((b.length : Int) < 14 + 4 * (k : Int) + (z : Int)) = true := decide_eq_true (by omega)
    go_enter Tryz.func21, Tryz.ntmps21
    go_wp2_with fail
    go_quiet (fail)
    go_wp2_with fail
    (with_reducible refine (HF.out w.heap.size 8 2 8 2 rfl rfl _ ?_ (by omega) (by omega) (by omega)).mono ?_)
    · simp [go_sem]
    rintro e w1 ⟨rfl, rfl⟩
    rw [HK.out.1]
    go_wp2_with fail
    (with_reducible refine (HF.out w.heap.size 10 2 10 2 rfl rfl _ ?_ (by omega) (by omega) (by omega)).mono ?_)
    · simp [go_sem]
    rintro e w1 ⟨rfl, rfl⟩
    rw [HK.out.2.1]
    go_wp2_with fail
    refine bodyPost_ret (v := .tuple #[.agg #[.slice none 0 0, .string ⟨#[]⟩, .int .i64 0, .int .u32 0], .int .i64 4]) (by simp [results, Tryz.results21, go_sem]) rfl ?_
    refine ⟨_, rfl, ofOut_no HE.out (by decide) _, ?_⟩
    exact (((((below_drewN (((Below.refl _ _).alloc (Nat.le_refl _) _).alloc (by simp) _) _).setCell (by simp) _).setCell (by simp) _).setCell (by simp) _).setCell (by simp) _)
  have hlo' : decide ((b.length : Int) < 14 + 4 * (k : Int) + (z : Int)) = false := decide_eq_false (by omega)
  by_cases hhi : 14 + 4 * k + z < b.length
  · have hE : Pl.ofE b = 3 := by rw [HK.out.2.2.2.2.1, if_neg hlo, if_pos hhi]
    have HE := Lib.hid hE; clear hE
    have hhi' : decide (14 + 4 * (k : Int) + (z : Int) < (b.length : Int)) = true := decide_eq_true (by omega)
    go_enter Tryz.func21, Tryz.ntmps21
    go_wp2_with fail
    go_quiet (fail)
    go_wp2_with fail
    (with_reducible refine (HF.out w.heap.size 8 2 8 2 rfl rfl _ ?_ (by omega) (by omega) (by omega)).mono ?_)
    · simp [go_sem]
    rintro e w1 ⟨rfl, rfl⟩
    rw [HK.out.1]
    go_wp2_with fail
    (with_reducible refine (HF.out w.heap.size 10 2 10 2 rfl rfl _ ?_ (by omega) (by omega) (by omega)).mono ?_)
    · simp [go_sem]
    rintro e w1 ⟨rfl, rfl⟩
    rw [HK.out.2.1]
    go_wp2_with fail
    refine bodyPost_ret (v := .tuple #[.agg #[.slice none 0 0, .string ⟨#[]⟩, .int .i64 0, .int .u32 0], .int .i64 3]) (by simp [results, Tryz.results21, go_sem]) rfl ?_
    refine ⟨_, rfl, ofOut_no HE.out (by decide) _, ?_⟩
    exact (((((below_drewN (((Below.refl _ _).alloc (Nat.le_refl _) _).alloc (by simp) _) _).setCell (by simp) _).setCell (by simp) _).setCell (by simp) _).setCell (by simp) _)
  rw [HK.out.1, HK.out.2.1, HK.out.2.2.2.2.2.2] at hbad
  exfalso
  rcases hbad with h | h | h
  · cases h
  · omega
  · omega
end Go.Proofs.YtmmnkoeajdeldaaGreatDoor
namespace Go.Proofs.YtmmnkoeajdeldaaGreatDoor
open Go.RowKit
set_option linter.unusedVariables false
set_option linter.unusedSimpArgs false
attribute [local go_sem] ba_get ba_cut ba_add

theorem made_rep (z : Value) (n : Nat) : madeCells #[z] n = (List.replicate n z).toArray := by
  apply Array.ext
  · simp [madeCells]
  · intro i h1 h2
    have : i % 1 = 0 := Nat.mod_one i
    simp [madeCells, this]


/-- The words so far, then zeros. -/
def txt (b : List UInt8) (k j : Nat) : List Value := ((List.range j).map fun i => .int .u32 (Pl.fieldN b (14 + 4 * i) 4 : Int)) ++ List.replicate (k - j) (.int .u32 0)
theorem txt_0 (b : List UInt8) (k : Nat) : (txt b k 0).toArray = Array.replicate k (.int .u32 0) := by simp [txt]
theorem txt_len (b : List UInt8) (k j : Nat) (h : j ≤ k) : (txt b k j).length = k := by simp [txt]; omega
theorem txt_set (b : List UInt8) (k j : Nat) (h : j < k) : (txt b k j).toArray.setIfInBounds j (.int .u32 (Pl.fieldN b (14 + 4 * j) 4 : Int)) = (txt b k (j + 1)).toArray := by
  obtain ⟨d, rfl⟩ : ∃ d, k = j + 1 + d := ⟨k - (j + 1), by omega⟩
  rw [List.setIfInBounds_toArray]
  unfold txt
  rw [show j + 1 + d - j = d + 1 by omega, show j + 1 + d - (j + 1) = d by omega, List.replicate_succ, List.set_append, if_neg (by simp), List.range_succ]
  simp
theorem txt_full (b : List UInt8) (k : Nat) (h : Pl.fieldN b 8 2 = k) : txt b k k = u32s (Pl.bodyE b).text := by
  unfold txt u32s Pl.bodyE
  rw [h]; simp [Function.comp_def]
theorem info_u32 : (Tryz.prog.info? 24).map (fun i => (i.zero, i.size, i.bytes)) = some (some (.int .u32 0), 1, 4) := by kernel_rfl

theorem lt_of_blk {w : World} {g : Nat} {o : Obj} (h : w.heap[g]? = some o) : g < w.heap.size := by
  rcases Nat.lt_or_ge g w.heap.size with hlt | hge
  · exact hlt
  · rw [Array.getElem?_eq_none hge] at h; cases h
theorem bodyE_ok (b : List UInt8) (hb : b.length ≤ 140737488355328) : ExeOk (Pl.bodyE b) := by
  have h1 := Pl.fieldN_2 b 8
  have h2 := Pl.fieldN_2 b 12
  have h3 := Pl.fieldN_4 b 4
  refine ⟨?_, ?_, ?_, ?_, ?_⟩ <;> simp only [Pl.bodyE, List.length_map, List.length_range, List.length_drop] <;> omega

set_option maxRecDepth 100000 in
set_option maxHeartbeats 1000000 in
theorem of_good (b : List UInt8) (w : World) (hb : b.length ≤ 140737488355328) (hhb : Pl.headBad b = false) (h14 : 14 ≤ b.length) (hlen : b.length = 14 + 4 * Pl.fieldN b 8 2 + Pl.fieldN b 10 2) :
    Calls Tryz.prog 21 #[.string ⟨b.toArray⟩] w (RetB (OfOut b) w) := by
  obtain ⟨m, hm⟩ : ∃ m, min b.length 4 = m := ⟨_, rfl⟩
  have hm4 : m ≤ 4 := by omega
  have hmb : m ≤ b.length := by omega
  have hmi : min (b.length : Int) 4 = (m : Int) := by omega
  have hr : (b.take m == ([104, 105, 98, 120] : List UInt8).take m) = true := by
    have := of_decide_eq_false hhb
    rw [hm, Classical.not_not] at this
    rw [this]; simp [Pl.magicB]
  have hf8 := Pl.fieldN_2 b 8
  have hf10 := Pl.fieldN_2 b 10
  have hf12 := Pl.fieldN_2 b 12
  have hf4 := Pl.fieldN_4 b 4
  have h14' : decide ((b.length : Int) < 14) = false := decide_eq_false (by omega)
  have hfa := fun (B a s : Nat) (ia iz : Int) (h1 : ia = a) (h2 : iz = s) (w : World) => field_int B b a s ia iz h1 h2 w
  have HF := Lib.hid hfa; clear hfa
  obtain ⟨k, hk⟩ : ∃ k, Pl.fieldN b 8 2 = k := ⟨_, rfl⟩
  obtain ⟨z, hz⟩ : ∃ z, Pl.fieldN b 10 2 = z := ⟨_, rfl⟩
  obtain ⟨rm, hrm⟩ : ∃ z, Pl.fieldN b 12 2 = z := ⟨_, rfl⟩
  obtain ⟨en, hen⟩ : ∃ z, Pl.fieldN b 4 4 = z := ⟨_, rfl⟩
  have hEq : Pl.ofE b = if Pl.chk (Pl.bodyE b) = 0 then 0 else 3 := by
    unfold Pl.ofE; rw [hhb, ← hlen]; simp; omega
  rw [hk, hz] at hlen
  rw [hk] at hf8
  rw [hz] at hf10
  rw [hrm] at hf12
  rw [hen] at hf4
  have HK := Lib.hid (And.intro hk (And.intro hz (And.intro hrm (And.intro hen (And.intro hEq (And.intro hm (And.intro hhb hlen))))))); clear hk hz hrm hen hEq hm hhb
  have e1 : IntKind.i64.wrap (4 * (k : Int)) = 4 * (k : Int) := IntWalk.i64_in _ (by omega)
  have e2 : IntKind.i64.wrap (14 + 4 * (k : Int)) = 14 + 4 * (k : Int) := IntWalk.i64_in _ (by omega)
  have e3 : IntKind.i64.wrap (14 + 4 * (k : Int) + (z : Int)) = 14 + 4 * (k : Int) + (z : Int) := IntWalk.i64_in _ (by omega)
  have hlo' : decide ((b.length : Int) < 14 + 4 * (k : Int) + (z : Int)) = false := decide_eq_false (by omega)
  have hhi' : decide (14 + 4 * (k : Int) + (z : Int) < (b.length : Int)) = false := decide_eq_false (by omega)
  have hmk : ∀ W : World, (Instr.makeSlice 23 (.int .i64 (k : Int)) (.int .i64 (k : Int))).run Tryz.prog W = .ok (.slice (some ⟨W.heap.size, 0, none⟩) k k) (W.alloc (.cells (List.replicate k (.int .u32 0)).toArray 24)) := by
    intro W
    rw [← made_rep]
    exact run_make_row' 23 24 (.int .u32 0) 4 Tryz.underlying23 info_u32 rfl .i64 .i64 k (by omega) (by omega) W
  have s1 : (14 + 4 * (k : Int)).toNat = 14 + 4 * k := by omega
  have s2 : (14 + 4 * (k : Int) + (z : Int)).toNat = 14 + 4 * k + z := by omega
  have s3 : (0 : Int) ≤ 14 + 4 * (k : Int) := by omega
  have s4 : 14 + 4 * (k : Int) ≤ 14 + 4 * (k : Int) + (z : Int) := by omega
  have s5 : 14 + 4 * (k : Int) + (z : Int) ≤ (b.length : Int) := by omega
  have s6 : (0 : Int) ≤ 14 + 4 * (k : Int) + (z : Int) := by omega
  have s7 : 14 + 4 * k + z - (14 + 4 * k) = z := by omega
  have s8 : IntKind.u32.wrap (en : Int) = en := by rw [IntKind.wrap_u32]; omega
  clear hlen
  go_enter Tryz.func21, Tryz.ntmps21
  go_wp2_with fail
  go_quiet (fail)
  go_wp2_with fail
  (with_reducible refine (HF.out w.heap.size 8 2 8 2 rfl rfl _ ?_ (by omega) (by omega) (by omega)).mono ?_)
  · simp [go_sem]
  rintro e w1 ⟨rfl, rfl⟩
  rw [HK.out.1]
  go_wp2_with fail
  (with_reducible refine (HF.out w.heap.size 10 2 10 2 rfl rfl _ ?_ (by omega) (by omega) (by omega)).mono ?_)
  · simp [go_sem]
  rintro e w1 ⟨rfl, rfl⟩
  rw [HK.out.2.1]
  go_wp2_with fail
  obtain ⟨W, hW⟩ : ∃ W, W = ((w.alloc (.cells #[.string ⟨b.toArray⟩] 9)).alloc (.cells #[.slice none 0 0, .string ⟨#[]⟩, .int .i64 0, .int .u32 0] 26)).drewN nq := ⟨_, rfl⟩
  have hc : W.cell? ⟨w.heap.size, 0, none⟩ = some (.string ⟨b.toArray⟩) := by rw [hW]; simp [go_sem]
  have hsz : W.heap.size = w.heap.size + 2 := by rw [hW]; simp [go_sem]
  have hbw : Below w.heap.size w W := by rw [hW]; exact below_drewN (((Below.refl _ _).alloc (Nat.le_refl _) _).alloc (by simp) _) _
  have hrb : W.heap[w.heap.size + 1]? = some (.cells #[.slice none 0 0, .string ⟨#[]⟩, .int .i64 0, .int .u32 0] 26 (0, 0)) := by
    rw [hW]
    have := heap_alloc_new (w.alloc (.cells #[.string ⟨b.toArray⟩] 9)) (.cells #[.slice none 0 0, .string ⟨#[]⟩, .int .i64 0, .int .u32 0] 26)
    simpa using this
  rw [← hW]
  have HW := Lib.hid (And.intro hW (And.intro hsz hrb)); clear hW hsz hrb
  have hdb : Below W.heap.size W W.drew := (Below.refl _ _).drew
  have hlt : w.heap.size < W.heap.size := by rw [HW.out.2.1]; omega
  have h12 : ∀ w', w'.cell? ⟨w.heap.size, 0, none⟩ = some (.string ⟨b.toArray⟩) → Calls Tryz.prog 55 #[.int .i64 12, .int .i64 2, .pointer (some ⟨w.heap.size, 0, none⟩)] w' (Ret (.int .i64 (rm : Int)) w') := by
    intro w' h
    have := HF.out w.heap.size 12 2 12 2 rfl rfl w' h (by omega) (by omega) (by omega)
    rw [HK.out.2.2.1] at this
    exact this
  have h44 : ∀ w', w'.cell? ⟨w.heap.size, 0, none⟩ = some (.string ⟨b.toArray⟩) → Calls Tryz.prog 55 #[.int .i64 4, .int .i64 4, .pointer (some ⟨w.heap.size, 0, none⟩)] w' (Ret (.int .i64 (en : Int)) w') := by
    intro w' h
    have := HF.out w.heap.size 4 4 4 4 rfl rfl w' h (by omega) (by omega) (by omega)
    rw [HK.out.2.2.2.1] at this
    exact this
  have HC := Lib.hid (And.intro h12 h44); clear h12 h44
  go_cut [10] from 47 to 58 (fun s10 wx => ∃ gs gx, s10 = .pointer (some ⟨gx, 0, none⟩) ∧ gs ≠ gx ∧ W.heap.size ≤ gs ∧ W.heap.size ≤ gx ∧ wx.heap[gs]? = some (.cells (Array.replicate k (.int .u32 0)) 24 (0, 0)) ∧
    wx.heap[gx]? = some (.cells #[.slice (some ⟨gs, 0, none⟩) k k, .string ⟨((b.drop (14 + 4 * k)).take z).toArray⟩, .int .i64 (rm : Int), .int .u32 (en : Int)] 26 (0, 0)) ∧ Below W.heap.size W wx)
  case first =>
    refine wp_region_held_drew (S := (fun w' => w'.cell? ⟨w.heap.size, 0, none⟩ = some (.string ⟨b.toArray⟩))) (by kernel_rfl) hc (fun hHeld => ?_)
    refine wpAnyH_take (i := 0) (v := ?_) rfl (by kernel_rfl) (by kernel_rfl) (by kernel_rfl) (fun _ _ _ h => h) (Or.inl ⟨by kernel_rfl, ?_⟩) hHeld ?_
    rotate_left
    · (intro w' hSw; (try dsimp only at hSw); go_simp; try with_reducible rfl)
    simp only [Act.put, List.setIfInBounds_toArray, List.set_cons_zero, List.set_cons_succ, List.getElem_toArray, List.getElem_cons_succ, List.getElem_cons_zero]
    refine wpAnyH_take (i := 2) (v := ?_) rfl (by kernel_rfl) (by kernel_rfl) (by kernel_rfl) (fun _ _ _ h => h) (Or.inl ⟨by kernel_rfl, ?_⟩) hHeld ?_
    rotate_left
    · (intro w' hSw; (try dsimp only at hSw); go_simp; try with_reducible rfl)
    simp only [Act.put, List.setIfInBounds_toArray, List.set_cons_zero, List.set_cons_succ, List.getElem_toArray, List.getElem_cons_succ, List.getElem_cons_zero]
    refine wpAnyH_take (i := 3) (v := ?_) rfl (by kernel_rfl) (by kernel_rfl) (by kernel_rfl) (fun _ _ _ h => h) (Or.inl ⟨by kernel_rfl, ?_⟩) hHeld ?_
    rotate_left
    · (intro w' hSw; (try dsimp only at hSw); go_simp; try with_reducible rfl)
    simp only [Act.put, List.setIfInBounds_toArray, List.set_cons_zero, List.set_cons_succ, List.getElem_toArray, List.getElem_cons_succ, List.getElem_cons_zero]
    refine wpAnyH_take (i := 4) (v := ?_) rfl (by kernel_rfl) (by kernel_rfl) (by kernel_rfl) (fun _ _ _ h => h) (Or.inl ⟨by kernel_rfl, ?_⟩) hHeld ?_
    rotate_left
    · (intro w' hSw; (try dsimp only at hSw); go_simp; try with_reducible rfl)
    simp only [Act.put, List.setIfInBounds_toArray, List.set_cons_zero, List.set_cons_succ, List.getElem_toArray, List.getElem_cons_succ, List.getElem_cons_zero]
    refine wpAnyH_take (i := 5) (v := ?_) rfl (by kernel_rfl) (by kernel_rfl) (by kernel_rfl) (fun _ _ _ h => h) (Or.inl ⟨by kernel_rfl, ?_⟩) hHeld ?_
    rotate_left
    · (intro w' hSw; (try dsimp only at hSw); go_simp; try with_reducible rfl)
    simp only [Act.put, List.setIfInBounds_toArray, List.set_cons_zero, List.set_cons_succ, List.getElem_toArray, List.getElem_cons_succ, List.getElem_cons_zero]
    refine wpAnyH_take (i := 6) (v := ?_) rfl (by kernel_rfl) (by kernel_rfl) (by kernel_rfl) (fun _ _ _ h => h) (Or.inl ⟨by kernel_rfl, ?_⟩) hHeld ?_
    rotate_left
    · (intro w' hSw; (try dsimp only at hSw); go_simp; try with_reducible rfl)
    simp only [Act.put, List.setIfInBounds_toArray, List.set_cons_zero, List.set_cons_succ, List.getElem_toArray, List.getElem_cons_succ, List.getElem_cons_zero]
    refine still_take (i := 7) (v := (.int .i64 (rm : Int))) rfl (by kernel_rfl) (fun _ _ _ h => h) _ _ _ _ (by kernel_rfl) (by kernel_rfl) ⟨by rfl, _, _, fun w' hSw => ⟨?_, (HC.out.1 w' hSw)⟩⟩ hHeld ?_
    · (try dsimp only at hSw); go_simp; try with_reducible rfl
    simp only [Act.put, List.setIfInBounds_toArray, List.set_cons_zero, List.set_cons_succ, List.getElem_toArray, List.getElem_cons_succ, List.getElem_cons_zero]
    refine wpAnyH_take (i := 8) (v := ?_) rfl (by kernel_rfl) (by kernel_rfl) (by kernel_rfl) (fun _ _ _ h => h) (Or.inl ⟨by kernel_rfl, ?_⟩) hHeld ?_
    rotate_left
    · (intro w' hSw; (try dsimp only at hSw); go_simp; try with_reducible rfl)
    simp only [Act.put, List.setIfInBounds_toArray, List.set_cons_zero, List.set_cons_succ, List.getElem_toArray, List.getElem_cons_succ, List.getElem_cons_zero]
    refine still_take (i := 9) (v := (.int .i64 (en : Int))) rfl (by kernel_rfl) (fun _ _ _ h => h) _ _ _ _ (by kernel_rfl) (by kernel_rfl) ⟨by rfl, _, _, fun w' hSw => ⟨?_, (HC.out.2 w' hSw)⟩⟩ hHeld ?_
    · (try dsimp only at hSw); go_simp; try with_reducible rfl
    simp only [Act.put, List.setIfInBounds_toArray, List.set_cons_zero, List.set_cons_succ, List.getElem_toArray, List.getElem_cons_succ, List.getElem_cons_zero]
    refine wpAnyH_take (i := 10) (v := ?_) rfl (by kernel_rfl) (by kernel_rfl) (by kernel_rfl) (fun _ _ _ h => h) (Or.inl ⟨by kernel_rfl, ?_⟩) hHeld ?_
    rotate_left
    · (intro w' hSw; (try dsimp only at hSw); go_simp; try with_reducible rfl)
    simp only [Act.put, List.setIfInBounds_toArray, List.set_cons_zero, List.set_cons_succ, List.getElem_toArray, List.getElem_cons_succ, List.getElem_cons_zero]
    have hne1 : w.heap.size ≠ W.heap.size := by omega
    refine wpAnyH_ready (rs := [1, 12]) (by kernel_rfl) (by simp) ?_
    refine AllReadyH.cons rfl (fun K hK => ?_) ?_
    · go_simp
      refine hK.out _ _ ((((Below.refl W.heap.size W).alloc (Nat.le_refl _) _).drew.cell (p := ⟨w.heap.size, 0, none⟩) hlt).trans hc) (fun hHeld => ?_)
      clear hK K
      (try simp only [Act.put, List.setIfInBounds_toArray, List.set_cons_zero, List.set_cons_succ, List.getElem_toArray, List.getElem_cons_succ, List.getElem_cons_zero])
      refine wpAnyH_take (i := 11) (v := ?_) rfl (by kernel_rfl) (by kernel_rfl) (by kernel_rfl) (fun _ _ _ h => h) (Or.inl ⟨by kernel_rfl, ?_⟩) hHeld ?_
      rotate_left
      · (intro w' hSw; (try dsimp only at hSw); go_simp; try with_reducible rfl)
      simp only [Act.put, List.setIfInBounds_toArray, List.set_cons_zero, List.set_cons_succ, List.getElem_toArray, List.getElem_cons_succ, List.getElem_cons_zero]
      refine wpAnyH_ready (rs := [12]) (by kernel_rfl) (by simp) ?_
      refine AllReadyH.cons rfl (fun K hK => ?_) ?_
      · go_simp
        refine hK.out _ _ (((((Below.refl W.heap.size W).alloc (Nat.le_refl _) _).alloc (by simp) _).drew.cell (p := ⟨w.heap.size, 0, none⟩) hlt).trans hc) (fun hHeld => ?_)
        clear hK K
        (try simp only [Act.put, List.setIfInBounds_toArray, List.set_cons_zero, List.set_cons_succ, List.getElem_toArray, List.getElem_cons_succ, List.getElem_cons_zero])
        refine wpAnyH_ready (rs := [13]) (by kernel_rfl) (by simp) ?_
        refine AllReadyH.cons rfl (fun K hK => ?_) ?_
        · go_simp
          refine hK.out _ _ (((((Below.refl W.heap.size W).alloc (Nat.le_refl _) _).alloc (by simp) _).drew.cell (p := ⟨w.heap.size, 0, none⟩) hlt).trans hc) (fun hHeld => ?_)
          clear hK K
          (try simp only [Act.put, List.setIfInBounds_toArray, List.set_cons_zero, List.set_cons_succ, List.getElem_toArray, List.getElem_cons_succ, List.getElem_cons_zero])
          refine wpAnyH_done (by kernel_rfl) ?_ _
          go_wp2_with fail
          go_meet
          case rel => exact ⟨W.heap.size, W.heap.size + 1, rfl, by omega, by omega, by omega, (Below.heap_alloc _ _ _ (by simp)).trans (heap_alloc_new W _), heap_alloc_2 W _ _, (((Below.refl W.heap.size W).alloc (Nat.le_refl _) _).alloc (by simp) _).drew⟩
        · exact AllReadyH.nil
      · exact AllReadyH.nil
    · refine AllReadyH.cons rfl (fun K hK => ?_) ?_
      · go_simp
        refine hK.out _ _ ((((Below.refl W.heap.size W).alloc (Nat.le_refl _) _).drew.cell (p := ⟨w.heap.size, 0, none⟩) hlt).trans hc) (fun hHeld => ?_)
        clear hK K
        (try simp only [Act.put, List.setIfInBounds_toArray, List.set_cons_zero, List.set_cons_succ, List.getElem_toArray, List.getElem_cons_succ, List.getElem_cons_zero])
        refine wpAnyH_ready (rs := [1]) (by kernel_rfl) (by simp) ?_
        refine AllReadyH.cons rfl (fun K hK => ?_) ?_
        · go_simp
          refine hK.out _ _ (((((Below.refl W.heap.size W).alloc (Nat.le_refl _) _).alloc (by simp) _).drew.cell (p := ⟨w.heap.size, 0, none⟩) hlt).trans hc) (fun hHeld => ?_)
          clear hK K
          (try simp only [Act.put, List.setIfInBounds_toArray, List.set_cons_zero, List.set_cons_succ, List.getElem_toArray, List.getElem_cons_succ, List.getElem_cons_zero])
          refine wpAnyH_take (i := 11) (v := ?_) rfl (by kernel_rfl) (by kernel_rfl) (by kernel_rfl) (fun _ _ _ h => h) (Or.inl ⟨by kernel_rfl, ?_⟩) hHeld ?_
          rotate_left
          · (intro w' hSw; (try dsimp only at hSw); go_simp; try with_reducible rfl)
          simp only [Act.put, List.setIfInBounds_toArray, List.set_cons_zero, List.set_cons_succ, List.getElem_toArray, List.getElem_cons_succ, List.getElem_cons_zero]
          refine wpAnyH_ready (rs := [13]) (by kernel_rfl) (by simp) ?_
          refine AllReadyH.cons rfl (fun K hK => ?_) ?_
          · go_simp
            refine hK.out _ _ (((((Below.refl W.heap.size W).alloc (Nat.le_refl _) _).alloc (by simp) _).drew.cell (p := ⟨w.heap.size, 0, none⟩) hlt).trans hc) (fun hHeld => ?_)
            clear hK K
            (try simp only [Act.put, List.setIfInBounds_toArray, List.set_cons_zero, List.set_cons_succ, List.getElem_toArray, List.getElem_cons_succ, List.getElem_cons_zero])
            refine wpAnyH_done (by kernel_rfl) ?_ _
            go_wp2_with fail
            go_meet
            case rel => exact ⟨W.heap.size + 1, W.heap.size, rfl, by omega, by omega, by omega, heap_alloc_2 W _ _, (Below.heap_alloc _ _ _ (by simp)).trans (heap_alloc_new W _), (((Below.refl W.heap.size W).alloc (Nat.le_refl _) _).alloc (by simp) _).drew⟩
          · exact AllReadyH.nil
        · exact AllReadyH.nil
      · exact AllReadyH.nil
  case rest =>
    obtain ⟨gs, gx, rfl, hne, hgs, hgx, hcs, hcx, hbx⟩ := hcut
    have hx0 : wc.cell? ⟨gx, 0, none⟩ = some (.slice (some ⟨gs, 0, none⟩) k k) := by simp [World.cell?, hcx]
    have hwd : ∀ (j : Nat), j < k → ∃ v : Nat, v < 4294967296 ∧ Pl.fieldN b (14 + 4 * j) 4 = v ∧ ∀ w', w'.cell? ⟨w.heap.size, 0, none⟩ = some (.string ⟨b.toArray⟩) → Calls Tryz.prog 55 #[.int .i64 (14 + 4 * (j : Int)), .int .i64 4, .pointer (some ⟨w.heap.size, 0, none⟩)] w' (Ret (.int .i64 (v : Int)) w') := by
      intro j hj
      refine ⟨_, Pl.fieldN_4 b (14 + 4 * j), rfl, fun w' h => ?_⟩
      exact HF.out w.heap.size (14 + 4 * j) 4 (14 + 4 * (j : Int)) 4 (by omega) rfl w' h (by omega) (by omega) (by omega)
    have HD := Lib.hid hwd; clear hwd
    rw [← txt_0 b k] at hcs
    go_wp2_with fail
    clear hmk s1 s2 s3 s4 s6 s7 s8 e1 e2 e3 hlo' hhi' hx0
    obtain ⟨dz, hdz⟩ : ∃ dz, (b.drop (14 + 4 * k)).take z = dz := ⟨_, rfl⟩
    rw [hdz] at hcx
    go_loopw [62] (fun i wr => ∃ j, j ≤ k ∧ i = .int .i64 (j : Nat) ∧ wr.heap[gs]? = some (.cells (txt b k j).toArray 24 (0, 0)) ∧ wr.heap[gx]? = some (.cells #[.slice (some ⟨gs, 0, none⟩) k k, .string ⟨dz.toArray⟩, .int .i64 (rm : Int), .int .u32 (en : Int)] 26 (0, 0)) ∧ Below W.heap.size W wr) (fun i _ => k - (intOf i).toNat)
    case atStart => exact ⟨0, by omega, rfl, hcs, hcx, hbx⟩
    case round =>
      clear hcs hcx hbx
      obtain ⟨j, hj, rfl, hcs, hcx, hbx⟩ := hrel
      have hx0 : wr.cell? ⟨gx, 0, none⟩ = some (.slice (some ⟨gs, 0, none⟩) k k) := by simp [World.cell?, hcx]
      have hcb : wr.cell? ⟨w.heap.size, 0, none⟩ = some (.string ⟨b.toArray⟩) := (hbx.cell (p := ⟨w.heap.size, 0, none⟩) hlt).trans hc
      by_cases hjk : j < k
      · obtain ⟨v, hv, hve, hcall⟩ := HD.out j hjk
        have hset := txt_set b k j hjk
        rw [hve] at hset
        have HS := Lib.hid (And.intro hset hve); clear hset hve
        have e1 : IntKind.i64.wrap (4 * (j : Int)) = 4 * (j : Int) := IntWalk.i64_in _ (by omega)
        have e2 : IntKind.i64.wrap (14 + 4 * (j : Int)) = 14 + 4 * (j : Int) := IntWalk.i64_in _ (by omega)
        have e3 : IntKind.u32.wrap (v : Int) = v := by rw [IntKind.wrap_u32]; omega
        have hgj : ∃ u, wr.cell? ⟨gs, j, none⟩ = some u := by
          have hl := txt_len b k j hj
          exact ⟨(txt b k j)[j], by simp [World.cell?, hcs, hl, hjk]⟩
        obtain ⟨u, hgj⟩ := hgj
        have hfz : wr.frozen? ⟨gs, j, none⟩ = false := frozen_of wr gs j _ _ hcs
        have HC2 := Lib.hid hcall; clear hcall
        have hcsd : wr.drew.heap[gs]? = some (.cells (txt b k j).toArray 24 (0, 0)) := hcs
        go_wp2_with fail
        refine wp_region_held_drew (S := (fun w' => w'.cell? ⟨w.heap.size, 0, none⟩ = some (.string ⟨b.toArray⟩) ∧ w'.cell? ⟨gx, 0, none⟩ = some (.slice (some ⟨gs, 0, none⟩) k k))) (by kernel_rfl) (by exact ⟨hcb, hx0⟩) (fun hHeld => ?_)
        refine wpAnyH_take (i := 0) (v := ?_) rfl (by kernel_rfl) (by kernel_rfl) (by kernel_rfl) (fun _ _ _ h => h) (Or.inl ⟨by kernel_rfl, ?_⟩) hHeld ?_
        rotate_left
        · (intro w' hSw; (try dsimp only at hSw); go_simp; try with_reducible rfl)
        simp only [Act.put, List.setIfInBounds_toArray, List.set_cons_zero, List.set_cons_succ, List.getElem_toArray, List.getElem_cons_succ, List.getElem_cons_zero]
        refine wpAnyH_take (i := 1) (v := ?_) rfl (by kernel_rfl) (by kernel_rfl) (by kernel_rfl) (fun _ _ _ h => h) (Or.inl ⟨by kernel_rfl, ?_⟩) hHeld ?_
        rotate_left
        · (intro w' hSw; (try dsimp only at hSw); go_simp; try with_reducible rfl)
        simp only [Act.put, List.setIfInBounds_toArray, List.set_cons_zero, List.set_cons_succ, List.getElem_toArray, List.getElem_cons_succ, List.getElem_cons_zero]
        refine wpAnyH_take (i := 2) (v := ?_) rfl (by kernel_rfl) (by kernel_rfl) (by kernel_rfl) (fun _ _ _ h => h) (Or.inl ⟨by kernel_rfl, ?_⟩) hHeld ?_
        rotate_left
        · (intro w' hSw; (try dsimp only at hSw); go_simp; try with_reducible rfl)
        simp only [Act.put, List.setIfInBounds_toArray, List.set_cons_zero, List.set_cons_succ, List.getElem_toArray, List.getElem_cons_succ, List.getElem_cons_zero]
        refine wpAnyH_take (i := 3) (v := ?_) rfl (by kernel_rfl) (by kernel_rfl) (by kernel_rfl) (fun _ _ _ h => h) (Or.inl ⟨by kernel_rfl, ?_⟩) hHeld ?_
        rotate_left
        · (intro w' hSw; (try dsimp only at hSw); go_simp; try with_reducible rfl)
        simp only [Act.put, List.setIfInBounds_toArray, List.set_cons_zero, List.set_cons_succ, List.getElem_toArray, List.getElem_cons_succ, List.getElem_cons_zero]
        refine wpAnyH_take (i := 4) (v := ?_) rfl (by kernel_rfl) (by kernel_rfl) (by kernel_rfl) (fun _ _ _ h => h) (Or.inl ⟨by kernel_rfl, ?_⟩) hHeld ?_
        rotate_left
        · (intro w' hSw; (try dsimp only at hSw); go_simp; try with_reducible rfl)
        simp only [Act.put, List.setIfInBounds_toArray, List.set_cons_zero, List.set_cons_succ, List.getElem_toArray, List.getElem_cons_succ, List.getElem_cons_zero]
        refine wpAnyH_take (i := 5) (v := ?_) rfl (by kernel_rfl) (by kernel_rfl) (by kernel_rfl) (fun _ _ _ h => h) (Or.inl ⟨by kernel_rfl, ?_⟩) hHeld ?_
        rotate_left
        · (intro w' hSw; (try dsimp only at hSw); go_simp; try with_reducible rfl)
        simp only [Act.put, List.setIfInBounds_toArray, List.set_cons_zero, List.set_cons_succ, List.getElem_toArray, List.getElem_cons_succ, List.getElem_cons_zero]
        refine wpAnyH_take (i := 6) (v := ?_) rfl (by kernel_rfl) (by kernel_rfl) (by kernel_rfl) (fun _ _ _ h => h) (Or.inl ⟨by kernel_rfl, ?_⟩) hHeld ?_
        rotate_left
        · (intro w' hSw; (try dsimp only at hSw); go_simp; try with_reducible rfl)
        simp only [Act.put, List.setIfInBounds_toArray, List.set_cons_zero, List.set_cons_succ, List.getElem_toArray, List.getElem_cons_succ, List.getElem_cons_zero]
        refine still_take (i := 7) (v := (.int .i64 (v : Int))) rfl (by kernel_rfl) (fun _ _ _ h => h) _ _ _ _ (by kernel_rfl) (by kernel_rfl) ⟨by rfl, _, _, fun w' hSw => ⟨?_, (HC2.out w' hSw.1)⟩⟩ hHeld ?_
        · (try dsimp only at hSw); go_simp; try with_reducible rfl
        simp only [Act.put, List.setIfInBounds_toArray, List.set_cons_zero, List.set_cons_succ, List.getElem_toArray, List.getElem_cons_succ, List.getElem_cons_zero]
        refine wpAnyH_take (i := 8) (v := ?_) rfl (by kernel_rfl) (by kernel_rfl) (by kernel_rfl) (fun _ _ _ h => h) (Or.inl ⟨by kernel_rfl, ?_⟩) hHeld ?_
        rotate_left
        · (intro w' hSw; (try dsimp only at hSw); go_simp; try with_reducible rfl)
        simp only [Act.put, List.setIfInBounds_toArray, List.set_cons_zero, List.set_cons_succ, List.getElem_toArray, List.getElem_cons_succ, List.getElem_cons_zero]
        refine wpAnyH_take (i := 9) (v := ?_) rfl (by kernel_rfl) (by kernel_rfl) (by kernel_rfl) (fun _ _ _ h => h) (Or.inl ⟨by kernel_rfl, ?_⟩) hHeld ?_
        rotate_left
        · (intro w' hSw; (try dsimp only at hSw); go_simp; try with_reducible rfl)
        simp only [Act.put, List.setIfInBounds_toArray, List.set_cons_zero, List.set_cons_succ, List.getElem_toArray, List.getElem_cons_succ, List.getElem_cons_zero]
        refine wpAnyH_ready (rs := [10]) (by kernel_rfl) (by simp) ?_
        refine AllReadyH.cons rfl (fun K hK => ?_) ?_
        · go_simp
          refine hK.out _ _ ⟨((hbx.setCell hgs _).drew.cell (p := ⟨w.heap.size, 0, none⟩) hlt).trans hc, (World.cell?_setCell_far wr ⟨gs, j, none⟩ ⟨gx, 0, none⟩ _ hne).trans hx0⟩ (fun hHeld => ?_)
          clear hK K
          (try simp only [Act.put, List.setIfInBounds_toArray, List.set_cons_zero, List.set_cons_succ, List.getElem_toArray, List.getElem_cons_succ, List.getElem_cons_zero])
          refine wpAnyH_done (by kernel_rfl) ?_ _
          go_wp2_with fail
          go_roundw
          case rel =>
            refine ⟨j + 1, by omega, by go_num, ?_, ?_, (hbx.setCell hgs _).drew⟩
            · rw [← HS.out.1]; exact set_at wr gs j _ _ _ hcs
            · exact (Below.heap_setCell wr ⟨gs, j, none⟩ _ gx (by simpa using Ne.symm hne)).trans hcx
          case measure => simp [intOf]; omega
        · exact AllReadyH.nil
      · obtain rfl : j = k := by omega
        rw [txt_full b j HK.out.1] at hcs
        have hx1 : wr.cell? ⟨gx, 1, none⟩ = some (.string ⟨dz.toArray⟩) := by simp [World.cell?, hcx]
        have hx2 : wr.cell? ⟨gx, 2, none⟩ = some (.int .i64 (rm : Int)) := by simp [World.cell?, hcx]
        have hx3 : wr.cell? ⟨gx, 3, none⟩ = some (.int .u32 (en : Int)) := by simp [World.cell?, hcx]
        have hev : exeV (some ⟨gs, 0, none⟩) j (Pl.bodyE b) = .agg #[.slice (some ⟨gs, 0, none⟩) j j, .string ⟨dz.toArray⟩, .int .i64 (rm : Int), .int .u32 (en : Int)] := by
          unfold exeV Pl.bodyE
          simp only [List.length_map, List.length_range]
          rw [HK.out.1, HK.out.2.2.1, HK.out.2.2.2.1, ← hdz, List.take_of_length_le (by rw [List.length_drop]; have := HK.out.2.2.2.2.2.2.2; omega)]
        have hok : ExeOk (Pl.bodyE b) := bodyE_ok b hb
        have hck := check_any (some ⟨gs, 0, none⟩) j (Pl.bodyE b) wr hok
        rw [hev] at hck
        have hEq := HK.out.2.2.2.2.1
        obtain ⟨q, hq⟩ : ∃ q, Pl.chk (Pl.bodyE b) = q := ⟨_, rfl⟩
        rw [hq] at hck hEq
        have hq01 : q = 0 ∨ q = 1 := by rw [← hq]; unfold Pl.chk; split <;> simp
        have hrb : wr.heap[w.heap.size + 1]? = some (.cells #[.slice none 0 0, .string ⟨#[]⟩, .int .i64 0, .int .u32 0] 26 (0, 0)) := (hbx.block _ (by rw [HW.out.2.1]; omega)).trans HW.out.2.2
        have hWs := HW.out.2.1
        have hwl := hbx.size
        have HV := Lib.hid (And.intro hev (And.intro hEq hdz)); clear hev hEq hdz hq
        go_wp2_with fail
        (with_reducible refine hck.mono ?_)
        rintro e w1 ⟨v, rfl, rfl, hb1⟩
        have hlx : gx < wr.heap.size := lt_of_blk hcx
        have hls : gs < wr.heap.size := lt_of_blk hcs
        have hcx1 := (hb1.block gx hlx).trans hcx
        have hcs1 := (hb1.block gs hls).trans hcs
        have hrb1 := (hb1.block (w.heap.size + 1) (by omega)).trans hrb
        have hbf : Below w.heap.size w w1 := hbw.trans ((hbx.trans (hb1.mono hbx.size)).mono hbw.size)
        have y0 : w1.cell? ⟨gx, 0, none⟩ = some (.slice (some ⟨gs, 0, none⟩) j j) := by simp [World.cell?, hcx1]
        have y1 : w1.cell? ⟨gx, 1, none⟩ = some (.string ⟨dz.toArray⟩) := by simp [World.cell?, hcx1]
        have y2 : w1.cell? ⟨gx, 2, none⟩ = some (.int .i64 (rm : Int)) := by simp [World.cell?, hcx1]
        have y3 : w1.cell? ⟨gx, 3, none⟩ = some (.int .u32 (en : Int)) := by simp [World.cell?, hcx1]
        have z0 : w1.cell? ⟨w.heap.size + 1, 0, none⟩ = some (.slice none 0 0) := by simp [World.cell?, hrb1]
        have z1 : w1.cell? ⟨w.heap.size + 1, 1, none⟩ = some (.string ⟨#[]⟩) := by simp [World.cell?, hrb1]
        have z2 : w1.cell? ⟨w.heap.size + 1, 2, none⟩ = some (.int .i64 0) := by simp [World.cell?, hrb1]
        have z3 : w1.cell? ⟨w.heap.size + 1, 3, none⟩ = some (.int .u32 0) := by simp [World.cell?, hrb1]
        have zf : ∀ i, w1.frozen? ⟨w.heap.size + 1, i, none⟩ = false := fun i => frozen_of w1 _ i _ _ hrb1
        have hge : w.heap.size + 1 ≠ gs := by omega
        clear hck hrb hx0 hx1 hx2 hx3 hWs
        rcases hq01 with rfl | rfl
        · go_wp2_with fail
          refine bodyPost_ret (v := .tuple #[.agg #[.slice (some ⟨gs, 0, none⟩) j j, .string ⟨dz.toArray⟩, .int .i64 (rm : Int), .int .u32 (en : Int)], .int .i64 0]) (by simp [results, Tryz.results21, go_sem, z0, z1, z2, z3]) rfl ?_
          refine ⟨_, rfl, ?_, ?_⟩
          · have h0 : Pl.ofE b = 0 := by rw [HV.out.2.1]; simp
            refine ⟨some ⟨gs, 0, none⟩, j, ?_, ?_⟩
            · unfold Pl.ofX; rw [h0, if_pos rfl, HV.out.1]; rfl
            · unfold Pl.ofX; rw [h0, if_pos rfl]
              have hl : (Pl.bodyE b).text.length = j := by simp [Pl.bodyE, HK.out.1]
              rw [hl]
              refine ⟨by rw [u32s_len, hl]; omega, fun _ => ⟨gs, 0, rfl, ?_, fun i hi => ?_⟩⟩
              · simp only [World.size_setCell]; exact Nat.lt_of_lt_of_le hls hb1.size
              · rw [Nat.zero_add, World.cell?_setCell_far _ _ _ _ hge, World.cell?_setCell_far _ _ _ _ hge, World.cell?_setCell_far _ _ _ _ hge, World.cell?_setCell_far _ _ _ _ hge]
                simp [World.cell?, hcs1]
          · exact (((hbf.setCell (by simp) _).setCell (by simp) _).setCell (by simp) _).setCell (by simp) _
        · go_wp2_with fail
          refine bodyPost_ret (v := .tuple #[.agg #[.slice none 0 0, .string ⟨#[]⟩, .int .i64 0, .int .u32 0], .int .i64 3]) (by simp [results, Tryz.results21, go_sem, z0, z1, z2, z3]) rfl ?_
          refine ⟨_, rfl, ofOut_no (by rw [HV.out.2.1]; simp) (by decide) _, ?_⟩
          exact (((hbf.setCell (by simp) _).setCell (by simp) _).setCell (by simp) _).setCell (by simp) _
theorem of_any (b : List UInt8) (w : World) (hb : b.length ≤ 140737488355328) : Calls Tryz.prog 21 #[.string ⟨b.toArray⟩] w (RetB (OfOut b) w) := by
  by_cases h1 : Pl.headBad b = true ∨ b.length < 14 ∨ b.length ≠ 14 + 4 * Pl.fieldN b 8 2 + Pl.fieldN b 10 2
  · exact of_bad b w hb h1
  · have h2 : Pl.headBad b = false := by
      cases h : Pl.headBad b
      · rfl
      · exact absurd (.inl h) h1
    exact of_good b w hb h2 (by omega) (by omega)
theorem of_file (x : Pl.Exe) (w : World) (hx : ExeOk x) (ht : ∀ y ∈ x.text, y < 4294967296) (hc : Pl.chk x = 0) :
    Calls Tryz.prog 21 #[.string ⟨(Pl.fileB x).toArray⟩] w (RetB (fun v w' => ∃ A c, v = .tuple #[exeV A c x, .int .i64 0] ∧ Rd w' 1 A x.text.length (u32s x.text)) w) := by
  have hcb : Pl.chkB x = false := by
    cases h : Pl.chkB x
    · rfl
    · simp [Pl.chk, h] at hc
  obtain ⟨g1, g2, g3, g4, g5, -⟩ := chk_ok hc
  have hl := Pl.fileB_len x
  have h0 := Pl.ofE_file x hcb ht
  have hX : Pl.ofX (Pl.fileB x) = x := by unfold Pl.ofX; rw [h0, if_pos rfl, Pl.body_file x hcb ht]
  refine (of_any (Pl.fileB x) w (by omega)).mono ?_
  rintro e w' ⟨v, rfl, ⟨A, c, rfl, hr⟩, hb'⟩
  rw [hX] at hr ⊢
  rw [h0]
  exact ⟨_, rfl, ⟨A, c, rfl, hr⟩, hb'⟩
end Go.Proofs.YtmmnkoeajdeldaaGreatDoor
namespace Go.Proofs.YtmmnkoeajdeldaaGreatDoor
open Go.ChangeShapes Go.WideShapes Go.ChangeAt Go.RowKit
set_option linter.unusedVariables false
set_option linter.unusedSimpArgs false
attribute [local go_sem] ba_get ba_cut ba_add
theorem xeOk_of {Y : Pl.Exe} (h : Pl.MkOk Y) : XeOk Y := ⟨by have := h.t; omega, by have := h.d; omega, by have := h.r0; omega, by have := h.r1; omega, by have := h.e; omega, h.w⟩
theorem xeOk_res (t : List UInt8) : XeOk (Pl.resE (Pl.mkP t)).1 := by
  cases h : Pl.mkP t with
  | error e => exact ⟨of_decide_eq_true rfl, of_decide_eq_true rfl, of_decide_eq_true rfl, of_decide_eq_true rfl, of_decide_eq_true rfl, fun y hy => (by cases hy)⟩
  | ok Y => exact xeOk_of (Pl.mk_ok h)
/-- A program's list, if it has one, makes it. -/
theorem back_of {P : Pl.Exe} (h : XeOk P) (hl : Pl.listT P ≠ []) : Pl.mkP (Pl.listT P) = .ok P ∧ (Pl.listT P).length ≤ 65536 := by
  unfold Pl.listT at hl ⊢
  by_cases hb : Pl.listB P = true
  · rw [if_pos hb]
    exact Pl.mk_list P h.w hb
  · rw [if_neg hb] at hl; exact absurd rfl hl
theorem list_len {P : Pl.Exe} (h : XeOk P) : (Pl.listT P).length ≤ 65536 := by
  by_cases hl : Pl.listT P = []
  · rw [hl]; exact of_decide_eq_true rfl
  · exact (back_of h hl).2
theorem exeOk_of {Y : Pl.Exe} (h : XeOk Y) : ExeOk Y := ⟨h.t, h.d, h.r0, h.r1, h.e⟩
theorem exeV_eq (A : Option Addr) (c : Nat) (x : Pl.Exe) : exeV A c x = xeV A c x := rfl
theorem u32s_eq (l : List Nat) : u32s l = w32s l := rfl
set_option maxRecDepth 100000 in
set_option maxHeartbeats 4000000 in
theorem exeMade_walk (t : List UInt8) (w : World) (ht : t.length ≤ 140737488355328) (hv : VLaw w) :
    Calls Tryz.prog 7 #[.string ⟨t.toArray⟩] w (RetB (fun v _ => v = .bool true) w) := by
  have HW := Lib.hid hv
  clear hv
  by_cases h15 : 1500 < t.length
  · go_enter Tryz.func7, Tryz.ntmps7
    go_wp2_with fail
    refine (awake_any _).mono ?_
    rintro y w3 ⟨v, rfl, rfl, hb3⟩
    go_wp2_with fail
    go_ret
    exact ⟨_, rfl, rfl, hb3⟩
  go_enter Tryz.func7, Tryz.ntmps7
  go_wp2_with fail
  refine (make_any t _ ht HW.out.asm).mono ?_
  rintro y w1 hq
  obtain ⟨tA, c1, rfl, hr1, hl1, hb1⟩ := hq.val
  have hy := xeOk_res t
  obtain ⟨⟨Y, e, ln⟩, hRE⟩ : ∃ q, Pl.resE (Pl.mkP t) = q := ⟨_, rfl⟩
  rw [hRE] at hr1 hl1 hy ⊢
  dsimp only at hr1 hl1 hy ⊢
  have hv1 := HW.out.below hb1
  have hck := fun W => rcheck_any tA c1 Y W (exeOk_of hy)
  have hby : Pl.chk Y = 0 → ∀ W, Below w1.heap.size w1 W → Calls Tryz.prog 20 #[xeV tA c1 Y] W (RetB (fun v _ => v = .tuple #[.string ⟨(Pl.fileB Y).toArray⟩, .int .i64 0]) W) := fun h0 W hb => by
    have h := bytes_any tA c1 Y W (exeOk_of hy) (hr1.below hb) hy.w
    unfold bytesV at h
    rw [h0, if_pos rfl] at h
    exact h
  have hof : Pl.chk Y = 0 → ∀ W, Calls Tryz.prog 21 #[.string ⟨(Pl.fileB Y).toArray⟩] W (RetB (fun v w' => ∃ A c, v = .tuple #[xeV A c Y, .int .i64 0] ∧ Rd w' 1 A Y.text.length (w32s Y.text)) W) := fun h0 W => of_file Y W (exeOk_of hy) hy.w h0
  have hli := fun W (hb : Below w1.heap.size w1 W) => list_any tA c1 Y W hy (hr1.below hb) (hv1.below hb)
  have hbk := fun hl => back_of hy hl
  have hln := list_len hy
  have hsm : ∀ W A' c', Below w1.heap.size w1 W → Rd W 1 A' Y.text.length (w32s Y.text) → Calls Tryz.prog 22 #[xeV tA c1 Y, xeV A' c' Y] W (RetB (fun v _ => v = .bool true) W) := fun W A' c' hb h => same_eq tA A' c1 c' Y W (exeOk_of hy) (hr1.below hb) h
  obtain ⟨S, hS⟩ : ∃ S, Pl.listT Y = S := ⟨_, rfl⟩
  obtain ⟨F, hF⟩ : ∃ F, Pl.fileB Y = F := ⟨_, rfl⟩
  obtain ⟨q, hqq⟩ : ∃ q, Pl.chk Y = q := ⟨_, rfl⟩
  rw [hS] at hli hbk hln
  simp only [hF, hqq] at hby hof hck
  have hny := hy.t
  clear hS hF hqq hq hRE hr1 hl1 hy
  obtain ⟨ty, dy, ry, ey⟩ := Y
  have eY : ∀ A' c', xeV A' c' ⟨ty, dy, ry, ey⟩ = .agg #[.slice A' ty.length c', .string ⟨dy.toArray⟩, .int .i64 ry, .int .u32 (ey : Int)] := fun _ _ => rfl
  have eY' : ∀ A' c', exeV A' c' ⟨ty, dy, ry, ey⟩ = .agg #[.slice A' ty.length c', .string ⟨dy.toArray⟩, .int .i64 ry, .int .u32 (ey : Int)] := fun _ _ => rfl
  simp only [eY, eY'] at hck hby hof hli hsm ⊢
  dsimp only at hny hsm hof
  obtain ⟨ny, hny2⟩ : ∃ z, ty.length = z := ⟨_, rfl⟩
  simp only [hny2] at hck hby hof hli hsm hny ⊢
  have HG := Lib.hid (And.intro hck (And.intro hby hof))
  have HL := Lib.hid (And.intro hli (And.intro hbk hsm))
  have HN := Lib.hid hny2
  have H1 := Lib.hid (And.intro hb1 hv1)
  clear eY eY' hck hby hof hli hbk hsm hny2 hb1 hv1
  go_upto_region 4 with (fail)
  obtain ⟨B0, hB0⟩ : ∃ B, w1.heap.size = B := ⟨_, rfl⟩
  obtain ⟨w2, hw2⟩ : ∃ V, w1.alloc (.cells #[.slice tA ny c1, .string ⟨dy.toArray⟩, .int .i64 ry, .int .u32 (ey : Int)] 26) = V := ⟨_, rfl⟩
  have hz2 : w2.heap[B0]? = some (.cells #[.slice tA ny c1, .string ⟨dy.toArray⟩, .int .i64 ry, .int .u32 (ey : Int)] 26 (0, 0)) := by rw [← hw2, ← hB0]; exact heap_alloc_new _ _
  have hb2 : Below w1.heap.size w1 w2 := by rw [← hw2]; exact (Below.refl _ _).alloc (Nat.le_refl _) _
  rw [hw2, hB0]
  obtain ⟨x0, x1, x2, x3⟩ := xeA_cells hz2
  have H2 := Lib.hid (And.intro hz2 (And.intro hb2 (H1.out.1.trans (hb2.mono H1.out.1.size))))
  clear hw2 hz2 hb2
  by_cases he : e = 0
  case neg =>
    have e0 : ((e : Int) != 0) = true := by rw [bne_iff_ne]; omega
    clear he
    go_wp2_with fail
    refine (awake_any _).mono ?_
    rintro y w3 ⟨v, rfl, rfl, hb3⟩
    go_wp2_with fail
    go_ret
    exact ⟨_, rfl, rfl, H2.out.2.2.trans (hb3.mono H2.out.2.2.size)⟩
  have e0 : ((e : Int) != 0) = false := by simp; omega
  clear he
  go_wp2_with fail
  refine (HG.out.1 _).mono ?_
  rintro y w3 ⟨v, rfl, rfl, hb3⟩
  have hb23 := hb3
  have hz3 := (hb3.block B0 (blk_lt H2.out.1)).trans H2.out.1
  have H3 := Lib.hid (And.intro hz3 (And.intro (H2.out.2.1.trans (hb3.mono H2.out.2.1.size)) (H2.out.2.2.trans (hb3.mono H2.out.2.2.size))))
  clear x0 x1 x2 x3 e0 hb3 hb23
  obtain ⟨x0, x1, x2, x3⟩ := xeA_cells hz3
  clear hz3
  by_cases hq0 : q = 0
  case neg =>
    have e0 : ((q : Int) != 0) = true := by rw [bne_iff_ne]; omega
    clear hq0
    go_wp2_with fail
    refine (awake_any _).mono ?_
    rintro y w4 ⟨v, rfl, rfl, hb4⟩
    go_wp2_with fail
    go_ret
    exact ⟨_, rfl, rfl, H3.out.2.2.trans (hb4.mono H3.out.2.2.size)⟩
  have e0 : ((q : Int) != 0) = false := by simp; omega
  have HB := Lib.hid (And.intro (HG.out.2.1 hq0) (HG.out.2.2 hq0))
  clear hq0
  go_wp2_with fail
  refine (HB.out.1 w3 H3.out.2.1).mono ?_
  rintro y w4 ⟨v, rfl, rfl, hb4⟩
  clear e0
  have hz4 := (hb4.block B0 (blk_lt H3.out.1)).trans H3.out.1
  have H4 := Lib.hid (And.intro hz4 (And.intro (H3.out.2.1.trans (hb4.mono H3.out.2.1.size)) (H3.out.2.2.trans (hb4.mono H3.out.2.2.size))))
  clear x0 x1 x2 x3 hb4 hz4
  go_wp2_with fail
  refine (HB.out.2 w4).mono ?_
  rintro y w5 ⟨v, rfl, ⟨A5, c5, rfl, hr5⟩, hb5⟩
  have hz5 := (hb5.block B0 (blk_lt H4.out.1)).trans H4.out.1
  have H5 := Lib.hid (And.intro hz5 (And.intro hr5 (And.intro (H4.out.2.1.trans (hb5.mono H4.out.2.1.size)) (H4.out.2.2.trans (hb5.mono H4.out.2.2.size)))))
  clear hb5 hz5 hr5
  go_upto_region 8 with (fail)
  obtain ⟨B1, hB1⟩ : ∃ B, w5.heap.size = B := ⟨_, rfl⟩
  obtain ⟨w6, hw6⟩ : ∃ V, w5.alloc (.cells #[.slice A5 ny c5, .string ⟨dy.toArray⟩, .int .i64 ry, .int .u32 (ey : Int)] 26) = V := ⟨_, rfl⟩
  have hz6 : w6.heap[B1]? = some (.cells #[.slice A5 ny c5, .string ⟨dy.toArray⟩, .int .i64 ry, .int .u32 (ey : Int)] 26 (0, 0)) := by rw [← hw6, ← hB1]; exact heap_alloc_new _ _
  have hb6 : Below w5.heap.size w5 w6 := by rw [← hw6]; exact (Below.refl _ _).alloc (Nat.le_refl _) _
  rw [hw6, hB1]
  have hz60 := (hb6.block B0 (blk_lt H5.out.1)).trans H5.out.1
  have H6 := Lib.hid (And.intro hz60 (And.intro hz6 (And.intro (H5.out.2.1.below hb6) (And.intro (H5.out.2.2.1.trans (hb6.mono H5.out.2.2.1.size)) (H5.out.2.2.2.trans (hb6.mono H5.out.2.2.2.size))))))
  clear hw6 hz6 hb6
  obtain ⟨x0, x1, x2, x3⟩ := xeA_cells hz60
  clear hz60
  go_wp2_with fail
  refine (HL.out.1 w6 H6.out.2.2.2.1).mono ?_
  rintro y w7 ⟨v, rfl, rfl, hb7⟩
  have hz70 := (hb7.block B0 (blk_lt H6.out.1)).trans H6.out.1
  have hz71 := (hb7.block B1 (blk_lt H6.out.2.1)).trans H6.out.2.1
  have H7 := Lib.hid (And.intro hz70 (And.intro hz71 (And.intro (H6.out.2.2.1.below hb7) (And.intro (H6.out.2.2.2.1.trans (hb7.mono H6.out.2.2.2.1.size)) (H6.out.2.2.2.2.trans (hb7.mono H6.out.2.2.2.2.size))))))
  clear x0 x1 x2 x3 hz70 hz71 hb7
  have hv7 : VLaw w7 := HW.out.below H7.out.2.2.2.2
  go_wp2_with fail
  refine (make_any S w7 (by omega) hv7.asm).mono ?_
  rintro y w8 hq
  obtain ⟨tB, c8, rfl, hr8, hl8, hb8⟩ := hq.val
  have hz80 := (hb8.block B0 (blk_lt H7.out.1)).trans H7.out.1
  have hz81 := (hb8.block B1 (blk_lt H7.out.2.1)).trans H7.out.2.1
  by_cases hS0 : S = []
  case pos =>
    have hSi : S.isEmpty = true := by rw [hS0]; rfl
    clear hS0 hq
    have hb7 := H7.out
    obtain ⟨⟨Z, e2, ln2⟩, hRE⟩ : ∃ q, Pl.resE (Pl.mkP S) = q := ⟨_, rfl⟩
    rw [hRE] at hr8 hl8 ⊢
    dsimp only at hr8 hl8 ⊢
    clear hRE hl8 hr8
    have H8 := Lib.hid (And.intro hz80 (And.intro hz81 (And.intro (H7.out.2.2.1.below hb8) (And.intro (H7.out.2.2.2.1.trans (hb8.mono H7.out.2.2.2.1.size)) (H7.out.2.2.2.2.trans (hb8.mono H7.out.2.2.2.2.size))))))
    obtain ⟨tz, dz, rz, ez⟩ := Z
    have eZ : xeV tB c8 ⟨tz, dz, rz, ez⟩ = .agg #[.slice tB tz.length c8, .string ⟨dz.toArray⟩, .int .i64 rz, .int .u32 (ez : Int)] := rfl
    rw [eZ]
    clear eZ hb8 hz80 hz81 hb7
    go_upto_region 10 with (fail)
    obtain ⟨w9, hw9⟩ : ∃ V, w8.alloc (.cells #[.slice tB tz.length c8, .string ⟨dz.toArray⟩, .int .i64 rz, .int .u32 (ez : Int)] 26) = V := ⟨_, rfl⟩
    have hb9 : Below w8.heap.size w8 w9 := by rw [← hw9]; exact (Below.refl _ _).alloc (Nat.le_refl _) _
    rw [hw9]
    clear hw9
    have hz90 := (hb9.block B0 (blk_lt H8.out.1)).trans H8.out.1
    have hz91 := (hb9.block B1 (blk_lt H8.out.2.1)).trans H8.out.2.1
    have H9 := Lib.hid (And.intro (H8.out.2.2.1.below hb9) (And.intro (H8.out.2.2.2.1.trans (hb9.mono H8.out.2.2.2.1.size)) (H8.out.2.2.2.2.trans (hb9.mono H8.out.2.2.2.2.size))))
    clear hb9
    obtain ⟨x0, x1, x2, x3⟩ := xeA_cells hz90
    obtain ⟨y0, y1, y2, y3⟩ := xeA_cells hz91
    clear hz90 hz91
    go_wp2_with fail
    refine (HL.out.2.2 w9 A5 c5 H9.out.2.1 H9.out.1).mono ?_
    rintro y w10 ⟨v, rfl, rfl, hb10⟩
    have H10 := Lib.hid (H9.out.2.2.trans (hb10.mono H9.out.2.2.size))
    clear x0 x1 x2 x3 y0 y1 y2 y3 hb10
    go_wp2_with fail
    refine (awake_any _).mono ?_
    rintro y w11 ⟨v, rfl, rfl, hb11⟩
    go_wp2_with fail
    go_ret
    exact ⟨_, rfl, rfl, H10.out.trans (hb11.mono H10.out.size)⟩
  have hSi : S.isEmpty = false := by
    cases hq : S with
    | nil => exact absurd hq hS0
    | cons a r => rfl
  have hM := (HL.out.2.1 hS0).1
  rw [hM] at hr8 hl8 ⊢
  dsimp only [Pl.resE] at hr8 hl8 ⊢
  have e9 : xeV tB c8 ⟨ty, dy, ry, ey⟩ = .agg #[.slice tB ty.length c8, .string ⟨dy.toArray⟩, .int .i64 ry, .int .u32 (ey : Int)] := rfl
  rw [e9]
  rw [HN.out] at hr8 hl8 ⊢
  have H8 := Lib.hid (And.intro hz80 (And.intro hz81 (And.intro (H7.out.2.2.1.below hb8) (And.intro hr8 (And.intro (H7.out.2.2.2.1.trans (hb8.mono H7.out.2.2.2.1.size)) (H7.out.2.2.2.2.trans (hb8.mono H7.out.2.2.2.2.size)))))))
  clear e9 hM hS0 hq hb8 hz80 hz81 hr8 hl8
  go_upto_region 10 with (fail)
  obtain ⟨B2, hB2⟩ : ∃ B, w8.heap.size = B := ⟨_, rfl⟩
  obtain ⟨w9, hw9⟩ : ∃ V, w8.alloc (.cells #[.slice tB ny c8, .string ⟨dy.toArray⟩, .int .i64 ry, .int .u32 (ey : Int)] 26) = V := ⟨_, rfl⟩
  have hz92 : w9.heap[B2]? = some (.cells #[.slice tB ny c8, .string ⟨dy.toArray⟩, .int .i64 ry, .int .u32 (ey : Int)] 26 (0, 0)) := by rw [← hw9, ← hB2]; exact heap_alloc_new _ _
  have hb9 : Below w8.heap.size w8 w9 := by rw [← hw9]; exact (Below.refl _ _).alloc (Nat.le_refl _) _
  rw [hw9, hB2]
  clear hw9
  have hz90 := (hb9.block B0 (blk_lt H8.out.1)).trans H8.out.1
  have hz91 := (hb9.block B1 (blk_lt H8.out.2.1)).trans H8.out.2.1
  have H9 := Lib.hid (And.intro (H8.out.2.2.1.below hb9) (And.intro (H8.out.2.2.2.1.below hb9) (And.intro (H8.out.2.2.2.2.1.trans (hb9.mono H8.out.2.2.2.2.1.size)) (And.intro (H8.out.2.2.2.2.2.trans (hb9.mono H8.out.2.2.2.2.2.size)) (And.intro hz90 hz92)))))
  clear hb9
  obtain ⟨x0, x1, x2, x3⟩ := xeA_cells hz90
  obtain ⟨y0, y1, y2, y3⟩ := xeA_cells hz91
  clear hz90 hz91 hz92
  go_wp2_with fail
  refine (HL.out.2.2 w9 A5 c5 H9.out.2.2.1 H9.out.1).mono ?_
  rintro y w10 ⟨v, rfl, rfl, hb10⟩
  have hz100 := (hb10.block B0 (blk_lt H9.out.2.2.2.2.1)).trans H9.out.2.2.2.2.1
  have hz102 := (hb10.block B2 (blk_lt H9.out.2.2.2.2.2)).trans H9.out.2.2.2.2.2
  have H10 := Lib.hid (And.intro (H9.out.2.1.below hb10) (And.intro (H9.out.2.2.1.trans (hb10.mono H9.out.2.2.1.size)) (H9.out.2.2.2.1.trans (hb10.mono H9.out.2.2.2.1.size))))
  clear x0 x1 x2 x3 y0 y1 y2 y3 hb10
  obtain ⟨x0, x1, x2, x3⟩ := xeA_cells hz100
  obtain ⟨y0, y1, y2, y3⟩ := xeA_cells hz102
  clear hz100 hz102
  go_wp2_with fail
  refine (HL.out.2.2 w10 tB c8 H10.out.2.1 H10.out.1).mono ?_
  rintro y w11 ⟨v, rfl, rfl, hb11⟩
  have H11 := Lib.hid (H10.out.2.2.trans (hb11.mono H10.out.2.2.size))
  clear x0 x1 x2 x3 y0 y1 y2 y3 hb11
  go_wp2_with fail
  refine (awake_any _).mono ?_
  rintro y w12 ⟨v, rfl, rfl, hb12⟩
  go_wp2_with fail
  go_ret
  exact ⟨_, rfl, rfl, H11.out.trans (hb12.mono H11.out.size)⟩
-- FRAME
set_option maxRecDepth 100000 in
theorem exeMade_lifted (os : Os) (started : os.Started) (H : Type) (enc : TypeId × Value → H) :
    ReturnsInHanded {} Tryz.checked os 7 .any (fun w args => (Rows.exeMadeSpec.pre enc Tryz.prog Tryz.f7 [] false w args ∧ laidMetH Tryz.prog tabs8 w) ∧ sizedMet enc Tryz.prog Tryz.f7 (OpenSpec.ofChange Rows.exeMadeSpec) false w args) (Rows.exeMadeSpec.post enc Tryz.prog Tryz.f7 false true false false) := by
  refine handed_and_shaped (C := Tryz.checked) (X := fun w _ => laidMetH Tryz.prog tabs8 w) (fun _ _ _ hh h => h.of_heap hh) own started (by kernel_rfl) Tryz.func7
    (ChangeSpec.witness_shaped (enc := enc) (C := Tryz.checked) (os := os) (X := fun w _ => laidMetH Tryz.prog tabs8 w) false (World.laidAll Tryz.prog os tabs8) #[.string ⟨#[]⟩] 8 (World.laidAll_os _ _ _) (door_shaped8 os) (by kernel_rfl) (by kernel_rfl) (by kernel_rfl) (door_met8 os _)) ?_
  intro W base args ds gs before hval0 hW hcnd hsz0 hL hsh _
  have hvars := vlaw_of8 hL hsh
  have hval : ∀ (j : Nat) t v, Tryz.f7.params[j]? = some t → args[j]? = some v → Value.okWide Tryz.prog W .any base t v := hval0
  have hW' := hW
  obtain ⟨p, q, hA0, hV, rfl, hfz, hnd⟩ := hW
  have hA : DataW.TrodAll enc Tryz.prog W 0 (fun _ => true) true Tryz.f7.params.toList args.toList ds p := hA0
  have hsz : (DataW.weightsEach Tryz.prog (Tryz.f7.params.toList ++ Rows.exeMadeSpec.plain.varTypes Tryz.prog) (ds ++ gs)).all (· ≤ reachBytes) = true := hsz0
  rw [Tryz.params7] at hA hval hsz
  obtain ⟨v0, vs0, d0, ds0, p0, q0, hargs, rfl, rfl, h0, r0⟩ := trodAll_cons hA
  obtain ⟨rfl, rfl, rfl⟩ := trodAll_nil r0
  obtain rfl : args = #[v0] := by cases args; simp_all
  obtain ⟨rfl, rfl⟩ := trodVars_none hV
  have k0 := h0
  have lt0 : ∀ x ∈ p0, x.block < W.heap.size := by obtain ⟨m, hm⟩ := k0; exact DataW.trod_lt m _ _ _ hm
  have hz0 : ∀ m ∈ d0.weights Tryz.prog 9, m ≤ reachBytes := fun m hm => by
    have h1 := List.all_eq_true.1 hsz m (DataW.weights_mem_each (j := 0) rfl rfl m hm)
    simpa using h1
  obtain ⟨l0, rfl, eA0⟩ := open_str (hval 0 9 v0 rfl rfl) h0 hz0
  clear hA0 hval0 hsz0
  refine (exeMade_walk l0 W (Nat.le_trans eA0 reach_le) hvars).mono fun e W' ⟨v, he, hv, bel⟩ => ?_
  subst he hv
  exact ⟨_, rfl, _, _, _, [], _, [], hW', trodAll_mk1 (shut_bool Tryz.underlying4 _), (trodAll_cons_mk (Below.trod laidOut (by kernel_rfl) (of_decide_eq_true (by kernel_rfl)) k0 bel lt0) trodAll_mk0), rfl, bel.frame _, fun h => by cases h⟩

theorem exeMade_row : Rows.ExeMadeSaid :=
  OpenClaim.holds_of_wide 7 Tryz.f7 rfl rfl rfl rfl rfl rfl rfl ⟨rfl, rfl, rfl, rfl, rfl⟩ rfl rfl rfl rfl rfl (by kernel_rfl) Tryz.func7 (by kernel_rfl)
    (of_decide_eq_true (by kernel_rfl)) (by unfold Func.isWrapper; first | (rw [if_pos (by decide +kernel)]; kernel_rfl) | (rw [if_neg (by decide +kernel)]; exact ⟨rfl, rfl⟩))
    (fun os started H enc _ => exeMade_lifted os started H enc)

theorem exeMade_holds : Rows.ExeMadeCardSaid :=
  Claim7.holds_tied_plain_at .later [] [.data, .data, .data, .data, .sentinel, .sentinel, .data, .pinned] true (true, "818a6ed589f336af0c0d102f47932e8562c39db2379b8541c17b0339f756e312") true
    exeMade_row (fun _ h => by cases h) (by kernel_rfl) (fun _ h => by cases h) exeMade_row_tie rfl ⟨rfl, rfl⟩ (by kernel_rfl) rfl
    (fun f fn hf hfn => by
      obtain rfl : f = 7 := Option.some.inj ((show Tryz.prog.funcNamed "hibernacle/hibernaclelaw12.ExeMade" = some 7 by kernel_rfl).symm.trans hf) |>.symm
      obtain rfl : fn = Tryz.f7 := (Option.some.inj (Tryz.func7.symm.trans hfn)).symm
      exact ⟨by kernel_rfl, fun j t ht => by
        rw [Tryz.params7] at ht
        rcases j with _ | _ | _ | _ | j
        all_goals first
          | (simp at ht; done)
          | (have h3 := Option.some.inj ht; subst h3; exact (show Tryz.prog.wantsStandIn _ = false by kernel_rfl))⟩)
    (by kernel_rfl)
#print axioms exeMade_holds
end Go.Proofs.YtmmnkoeajdeldaaGreatDoor
