/- What Go's strings.Builder does, laid at this seat's translation: the shelf's contracts under one table of numbers, and said once more of lists of bytes. No condition of its own. -/
import Derived.Shelf.Strings.BuilderK
import Derived.Shelf.Strings.Builder2
import Derived.Test.YtplhmhclcfclhaaProg
namespace Go.Proofs
open Go.Shelf
def Try.bld_ren : Go.Shelf.Ren := ⟨fun | 165 => 38 | 166 => 40 | 167 => 39 | 169 => 41 | 170 => 61 | 240 => 57 | 241 => 58 | 276 => 62 | 277 => 63 | n => n, fun | 0 => 0 | 3 => 3 | 4 => 4 | 5 => 5 | 9 => 9 | 20 => 20 | 37 => 66 | 70 => 65 | 72 => 68 | 75 => 71 | 80 => 76 | 127 => 97 | 164 => 102 | n => n, fun  | n => n⟩
theorem Try.bld_165 : Go.Proofs.Lays.n165 Try.prog Try.bld_ren := {
  mixed := by kernel_rfl
  f165 := Try.func38.trans (congrArg some (by kernel_rfl))
  f240 := Try.func57.trans (congrArg some (by kernel_rfl))
  f241 := Try.func58.trans (congrArg some (by kernel_rfl))
  f276 := Try.func62.trans (congrArg some (by kernel_rfl))
  f277 := Try.func63.trans (congrArg some (by kernel_rfl))
  t0 := Try.underlying0
  a0 := Try.isAgg0
  z0 := Try.sizeOf0
  v0 := Try.zeroValue0
  t3 := Try.underlying3
  a3 := Try.isAgg3
  z3 := Try.sizeOf3
  v3 := Try.zeroValue3
  t4 := Try.underlying4
  a4 := Try.isAgg4
  z4 := Try.sizeOf4
  v4 := Try.zeroValue4
  t9 := Try.underlying9
  a9 := Try.isAgg9
  z9 := Try.sizeOf9
  v9 := Try.zeroValue9
  t20 := Try.underlying20
  a20 := Try.isAgg20
  z20 := Try.sizeOf20
  v20 := Try.zeroValue20
  t37 := Try.underlying66
  a37 := Try.isAgg66
  z37 := Try.sizeOf66
  v37 := Try.zeroValue66
  t70 := Try.underlying65
  a70 := Try.isAgg65
  z70 := Try.sizeOf65
  v70 := Try.zeroValue65
  t72 := Try.underlying68
  a72 := Try.isAgg68
  z72 := Try.sizeOf68
  v72 := Try.zeroValue68
  t164 := Try.underlying102
  a164 := Try.isAgg102
  z164 := Try.sizeOf102
  v164 := Try.zeroValue102 }
theorem Try.bld_166 : Go.Proofs.Lays.n166 Try.prog Try.bld_ren := {
  mixed := by kernel_rfl
  f166 := Try.func40.trans (congrArg some (by kernel_rfl))
  f240 := Try.func57.trans (congrArg some (by kernel_rfl))
  f276 := Try.func62.trans (congrArg some (by kernel_rfl))
  t0 := Try.underlying0
  a0 := Try.isAgg0
  z0 := Try.sizeOf0
  v0 := Try.zeroValue0
  t3 := Try.underlying3
  a3 := Try.isAgg3
  z3 := Try.sizeOf3
  v3 := Try.zeroValue3
  t4 := Try.underlying4
  a4 := Try.isAgg4
  z4 := Try.sizeOf4
  v4 := Try.zeroValue4
  t9 := Try.underlying9
  a9 := Try.isAgg9
  z9 := Try.sizeOf9
  v9 := Try.zeroValue9
  t20 := Try.underlying20
  a20 := Try.isAgg20
  z20 := Try.sizeOf20
  v20 := Try.zeroValue20
  t37 := Try.underlying66
  a37 := Try.isAgg66
  z37 := Try.sizeOf66
  v37 := Try.zeroValue66
  t70 := Try.underlying65
  a70 := Try.isAgg65
  z70 := Try.sizeOf65
  v70 := Try.zeroValue65
  t72 := Try.underlying68
  a72 := Try.isAgg68
  z72 := Try.sizeOf68
  v72 := Try.zeroValue68
  t75 := Try.underlying71
  a75 := Try.isAgg71
  z75 := Try.sizeOf71
  v75 := Try.zeroValue71
  t164 := Try.underlying102
  a164 := Try.isAgg102
  z164 := Try.sizeOf102
  v164 := Try.zeroValue102 }
theorem Try.bld_167 : Go.Proofs.Lays.n167 Try.prog Try.bld_ren := {
  mixed := by kernel_rfl
  f167 := Try.func39.trans (congrArg some (by kernel_rfl))
  f240 := Try.func57.trans (congrArg some (by kernel_rfl))
  f276 := Try.func62.trans (congrArg some (by kernel_rfl))
  t0 := Try.underlying0
  a0 := Try.isAgg0
  z0 := Try.sizeOf0
  v0 := Try.zeroValue0
  t4 := Try.underlying4
  a4 := Try.isAgg4
  z4 := Try.sizeOf4
  v4 := Try.zeroValue4
  t5 := Try.underlying5
  a5 := Try.isAgg5
  z5 := Try.sizeOf5
  v5 := Try.zeroValue5
  t9 := Try.underlying9
  a9 := Try.isAgg9
  z9 := Try.sizeOf9
  v9 := Try.zeroValue9
  t20 := Try.underlying20
  a20 := Try.isAgg20
  z20 := Try.sizeOf20
  v20 := Try.zeroValue20
  t37 := Try.underlying66
  a37 := Try.isAgg66
  z37 := Try.sizeOf66
  v37 := Try.zeroValue66
  t70 := Try.underlying65
  a70 := Try.isAgg65
  z70 := Try.sizeOf65
  v70 := Try.zeroValue65
  t72 := Try.underlying68
  a72 := Try.isAgg68
  z72 := Try.sizeOf68
  v72 := Try.zeroValue68
  t75 := Try.underlying71
  a75 := Try.isAgg71
  z75 := Try.sizeOf71
  v75 := Try.zeroValue71
  t164 := Try.underlying102
  a164 := Try.isAgg102
  z164 := Try.sizeOf102
  v164 := Try.zeroValue102 }
theorem Try.bld_169 : Go.Proofs.Lays.n169 Try.prog Try.bld_ren := {
  mixed := by kernel_rfl
  f169 := Try.func41.trans (congrArg some (by kernel_rfl))
  t0 := Try.underlying0
  a0 := Try.isAgg0
  z0 := Try.sizeOf0
  v0 := Try.zeroValue0
  t3 := Try.underlying3
  a3 := Try.isAgg3
  z3 := Try.sizeOf3
  v3 := Try.zeroValue3
  t9 := Try.underlying9
  a9 := Try.isAgg9
  z9 := Try.sizeOf9
  v9 := Try.zeroValue9
  t37 := Try.underlying66
  a37 := Try.isAgg66
  z37 := Try.sizeOf66
  v37 := Try.zeroValue66
  t70 := Try.underlying65
  a70 := Try.isAgg65
  z70 := Try.sizeOf65
  v70 := Try.zeroValue65
  t72 := Try.underlying68
  a72 := Try.isAgg68
  z72 := Try.sizeOf68
  v72 := Try.zeroValue68
  t127 := Try.underlying97
  a127 := Try.isAgg97
  z127 := Try.sizeOf97
  v127 := Try.zeroValue97 }
theorem Try.bld_170 : Go.Proofs.Lays.n170 Try.prog Try.bld_ren := {
  mixed := by kernel_rfl
  f170 := Try.func61.trans (congrArg some (by kernel_rfl))
  t0 := Try.underlying0
  a0 := Try.isAgg0
  z0 := Try.sizeOf0
  v0 := Try.zeroValue0
  t3 := Try.underlying3
  a3 := Try.isAgg3
  z3 := Try.sizeOf3
  v3 := Try.zeroValue3
  t37 := Try.underlying66
  a37 := Try.isAgg66
  z37 := Try.sizeOf66
  v37 := Try.zeroValue66
  t70 := Try.underlying65
  a70 := Try.isAgg65
  z70 := Try.sizeOf65
  v70 := Try.zeroValue65
  t72 := Try.underlying68
  a72 := Try.isAgg68
  z72 := Try.sizeOf68
  v72 := Try.zeroValue68 }
theorem Try.bld_240 : Go.Proofs.Lays.n240 Try.prog Try.bld_ren := {
  mixed := by kernel_rfl
  f240 := Try.func57.trans (congrArg some (by kernel_rfl))
  f276 := Try.func62.trans (congrArg some (by kernel_rfl))
  t0 := Try.underlying0
  a0 := Try.isAgg0
  z0 := Try.sizeOf0
  v0 := Try.zeroValue0
  t4 := Try.underlying4
  a4 := Try.isAgg4
  z4 := Try.sizeOf4
  v4 := Try.zeroValue4
  t9 := Try.underlying9
  a9 := Try.isAgg9
  z9 := Try.sizeOf9
  v9 := Try.zeroValue9
  t20 := Try.underlying20
  a20 := Try.isAgg20
  z20 := Try.sizeOf20
  v20 := Try.zeroValue20
  t70 := Try.underlying65
  a70 := Try.isAgg65
  z70 := Try.sizeOf65
  v70 := Try.zeroValue65
  t72 := Try.underlying68
  a72 := Try.isAgg68
  z72 := Try.sizeOf68
  v72 := Try.zeroValue68
  t164 := Try.underlying102
  a164 := Try.isAgg102
  z164 := Try.sizeOf102
  v164 := Try.zeroValue102 }
theorem Try.bld_241 : Go.Proofs.Lays.n241 Try.prog Try.bld_ren := {
  mixed := by kernel_rfl
  f241 := Try.func58.trans (congrArg some (by kernel_rfl))
  f277 := Try.func63.trans (congrArg some (by kernel_rfl))
  t0 := Try.underlying0
  a0 := Try.isAgg0
  z0 := Try.sizeOf0
  v0 := Try.zeroValue0
  t3 := Try.underlying3
  a3 := Try.isAgg3
  z3 := Try.sizeOf3
  v3 := Try.zeroValue3
  t37 := Try.underlying66
  a37 := Try.isAgg66
  z37 := Try.sizeOf66
  v37 := Try.zeroValue66
  t70 := Try.underlying65
  a70 := Try.isAgg65
  z70 := Try.sizeOf65
  v70 := Try.zeroValue65
  t72 := Try.underlying68
  a72 := Try.isAgg68
  z72 := Try.sizeOf68
  v72 := Try.zeroValue68 }
theorem Try.bld_x : Builder.Extra Try.prog Try.bld_ren := {
  sizeBuilder := by kernel_rfl
  liesBuilder := by kernel_rfl
  t5 := Try.underlying5
  a5 := Try.isAgg5
  z5 := Try.sizeOf5
  v5 := Try.zeroValue5
  infoByte := by kernel_rfl
  cellsByte := by kernel_rfl
  sizeByte := by kernel_rfl
  neB5 := by decide }
namespace Ytplhmhclcfclhaa
open Go.RowKit
/-- A builder in block b, all of its own from block B on, that holds the bytes l. -/
def Bld (B b : Nat) (l : List UInt8) (w : World) : Prop := Lib.IsBuilderF 68 5 B b (Lib.byteCells l) w
/-- Every block that is neither the builder's nor a row of bytes is as it was. -/
def Kept (b : Nat) (w w' : World) : Prop := Lib.OthersKept 5 (some b) w w'

theorem bld_writeByte (B b : Nat) (l : List UInt8) (c : UInt8) (w : World) (h : Bld B b l w) (hlen : l.length + 1 ≤ 140737488355328) (hBw : B ≤ w.heap.size) :
    Calls Try.prog 39 #[.pointer (some ⟨b, 0, none⟩), .int .u8 (c.toNat : Int)] w fun e w' => e = .returned .nilIface ∧ Bld B b (l ++ [c]) w' ∧ Below B w w' ∧ Kept b w w' := by
  refine (Any.Builder_WriteByte_k Try.bld_167 Try.bld_x B b (Lib.byteCells l) (c.toNat : Int) w h (by simpa [Lib.byteCells] using hlen) hBw).mono ?_
  rintro e w' ⟨he, hb, hbe, hk⟩
  refine ⟨he, .inr ?_, hbe, hk⟩
  have : Lib.byteCells (l ++ [c]) = Lib.byteCells l ++ [.int .u8 (c.toNat : Int)] := by simp [Lib.byteCells]
  rw [this]; exact hb
theorem bld_writeInt (B b : Nat) (l : List UInt8) (x : Int) (w : World) (h : Bld B b l w) (h0 : 0 ≤ x) (h1 : x < 256) (hlen : l.length + 1 ≤ 140737488355328) (hBw : B ≤ w.heap.size) :
    Calls Try.prog 39 #[.pointer (some ⟨b, 0, none⟩), .int .u8 x] w fun e w' => e = .returned .nilIface ∧ Bld B b (l ++ [UInt8.ofNat x.toNat]) w' ∧ Below B w w' ∧ Kept b w w' := by
  have e : x = ((UInt8.ofNat x.toNat).toNat : Int) := by simp; omega
  have := bld_writeByte B b l (UInt8.ofNat x.toNat) w h hlen hBw
  rwa [← e] at this
theorem bld_writeString (B b : Nat) (l s : List UInt8) (w : World) (h : Bld B b l w) (hlen : l.length + s.length ≤ 140737488355328) (hBw : B ≤ w.heap.size) :
    Calls Try.prog 40 #[.pointer (some ⟨b, 0, none⟩), .string ⟨s.toArray⟩] w fun e w' => e = .returned (.tuple #[.int .i64 (s.length : Int), .nilIface]) ∧ Bld B b (l ++ s) w' ∧ Below B w w' ∧ Kept b w w' := by
  refine (Any.Builder_WriteString_k Try.bld_166 Try.bld_x B b (Lib.byteCells l) ⟨s.toArray⟩ w h (by simpa [Lib.byteCells, ByteArray.size] using hlen) hBw).mono ?_
  rintro e w' ⟨he, hb, hbe, hk⟩
  refine ⟨by simpa [ByteArray.size] using he, .inr ?_, hbe, hk⟩
  have : Lib.byteCells (l ++ s) = Lib.byteCells l ++ Lib.strCells ⟨s.toArray⟩ := by simp [Lib.byteCells, Lib.strCells_eq]
  rw [this]; exact hb
theorem bld_string (B b : Nat) (l : List UInt8) (w : World) (h : Bld B b l w) (hBw : B ≤ w.heap.size) :
    Calls Try.prog 41 #[.pointer (some ⟨b, 0, none⟩)] w fun e w' => e = .returned (.string ⟨l.toArray⟩) ∧ Bld B b l w' ∧ Below B w w' ∧ Kept b w w' :=
  Any.Builder_String_any_k Try.bld_169 Try.bld_x B b l w h hBw
theorem bld_grow (B b n : Nat) (w : World) (hB : B ≤ b) (hbk : w.heap[b]? = some (.cells #[.pointer none, .slice none 0 0] 68 (0, 0))) (hBw : B ≤ w.heap.size) (hn : n ≤ 281474976710656) :
    Calls Try.prog 38 #[.pointer (some ⟨b, 0, none⟩), .int .i64 (n : Int)] w fun e w' => e = .returned (.tuple #[]) ∧ Bld B b [] w' ∧ Below B w w' :=
  (Any.Builder_Grow_fresh Try.bld_165 Try.bld_x B b n w hB hbk hBw hn).mono fun _ _ ⟨he, hb, hbe⟩ => ⟨he, .inr (Lib.BuilderAtF.of hb), hbe⟩
theorem heap_keep {w w' : World} {g : Nat} {o : Obj} (h : w.heap[g]? = some o) (hb : Below w.heap.size w w') : w'.heap[g]? = some o := by
  rcases Nat.lt_or_ge g w.heap.size with hlt | hge
  · rw [hb.block g hlt]; exact h
  · rw [Array.getElem?_eq_none hge] at h; cases h
theorem bldAt_below {T e : TypeId} {B b : Nat} {p : Value} {bs : List Value} {w w' : World} (h : Lib.BuilderAtF T e B b p bs w) (hb : Below w.heap.size w w') : Lib.BuilderAtF T e B b p bs w' := by
  obtain ⟨hB, v, h1, ⟨h2, h3⟩, h4⟩ := h
  refine ⟨hB, v, heap_keep h1 hb, ⟨h2, ?_⟩, h4⟩
  rcases h3 with h3 | ⟨g, cap, cur, fz, hv, hg, hh, r⟩
  · exact .inl h3
  · exact .inr ⟨g, cap, cur, fz, hv, hg, heap_keep hh hb, r⟩
/-- A builder is kept by a call that leaves all that was there. -/
theorem Bld.below {B b : Nat} {l : List UInt8} {w w' : World} (h : Bld B b l w) (hb : Below w.heap.size w w') : Bld B b l w' :=
  h.elim (fun x => .inl (bldAt_below x hb)) (fun x => .inr (bldAt_below x hb))
/-- A builder just made. -/
theorem bld_new (B : Nat) (w : World) (hB : B ≤ w.heap.size) : Bld B w.heap.size [] (w.alloc (.cells #[.pointer none, .slice none 0 0] 68)) :=
  .inl ⟨hB, .slice none 0 0, heap_alloc_new w _, ⟨by simp [Lib.byteCells], .inl ⟨rfl, rfl⟩⟩, by simp [Value.ownBlock]⟩
end Ytplhmhclcfclhaa
end Go.Proofs
