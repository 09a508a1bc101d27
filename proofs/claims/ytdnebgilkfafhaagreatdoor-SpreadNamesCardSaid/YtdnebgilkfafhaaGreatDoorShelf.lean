/- What Go's strings.Builder does, laid at this seat's translation: the shelf's contracts under one table of numbers, and said once more of lists of bytes. No condition of its own. What Go's strings.Repeat does, laid at this seat's translation. -/
import Derived.Shelf.Strings.BuilderK
import Derived.Shelf.Strings.Builder2
import Derived.Test.YtdnebgilkfafhaaGreatDoorProg
import Derived.Shelf.Strings.Repeat
namespace Go.Proofs
open Go.Shelf
def Tryz.bld_ren : Go.Shelf.Ren := ⟨fun | 165 => 105 | 166 => 106 | 167 => 111 | 169 => 108 | 170 => 107 | 240 => 149 | 241 => 150 | 276 => 171 | 277 => 172 | n => n, fun | 0 => 0 | 3 => 3 | 4 => 4 | 5 => 5 | 9 => 9 | 20 => 20 | 37 => 138 | 70 => 170 | 72 => 172 | 75 => 175 | 80 => 179 | 127 => 221 | 164 => 237 | n => n, fun  | n => n⟩
theorem Tryz.bld_165 : Go.Proofs.Lays.n165 Tryz.prog Tryz.bld_ren := {
  mixed := by kernel_rfl
  f165 := Tryz.func105.trans (congrArg some (by kernel_rfl))
  f240 := Tryz.func149.trans (congrArg some (by kernel_rfl))
  f241 := Tryz.func150.trans (congrArg some (by kernel_rfl))
  f276 := Tryz.func171.trans (congrArg some (by kernel_rfl))
  f277 := Tryz.func172.trans (congrArg some (by kernel_rfl))
  t0 := Tryz.underlying0
  a0 := Tryz.isAgg0
  z0 := Tryz.sizeOf0
  v0 := Tryz.zeroValue0
  t3 := Tryz.underlying3
  a3 := Tryz.isAgg3
  z3 := Tryz.sizeOf3
  v3 := Tryz.zeroValue3
  t4 := Tryz.underlying4
  a4 := Tryz.isAgg4
  z4 := Tryz.sizeOf4
  v4 := Tryz.zeroValue4
  t9 := Tryz.underlying9
  a9 := Tryz.isAgg9
  z9 := Tryz.sizeOf9
  v9 := Tryz.zeroValue9
  t20 := Tryz.underlying20
  a20 := Tryz.isAgg20
  z20 := Tryz.sizeOf20
  v20 := Tryz.zeroValue20
  t37 := Tryz.underlying138
  a37 := Tryz.isAgg138
  z37 := Tryz.sizeOf138
  v37 := Tryz.zeroValue138
  t70 := Tryz.underlying170
  a70 := Tryz.isAgg170
  z70 := Tryz.sizeOf170
  v70 := Tryz.zeroValue170
  t72 := Tryz.underlying172
  a72 := Tryz.isAgg172
  z72 := Tryz.sizeOf172
  v72 := Tryz.zeroValue172
  t164 := Tryz.underlying237
  a164 := Tryz.isAgg237
  z164 := Tryz.sizeOf237
  v164 := Tryz.zeroValue237 }
theorem Tryz.bld_166 : Go.Proofs.Lays.n166 Tryz.prog Tryz.bld_ren := {
  mixed := by kernel_rfl
  f166 := Tryz.func106.trans (congrArg some (by kernel_rfl))
  f240 := Tryz.func149.trans (congrArg some (by kernel_rfl))
  f276 := Tryz.func171.trans (congrArg some (by kernel_rfl))
  t0 := Tryz.underlying0
  a0 := Tryz.isAgg0
  z0 := Tryz.sizeOf0
  v0 := Tryz.zeroValue0
  t3 := Tryz.underlying3
  a3 := Tryz.isAgg3
  z3 := Tryz.sizeOf3
  v3 := Tryz.zeroValue3
  t4 := Tryz.underlying4
  a4 := Tryz.isAgg4
  z4 := Tryz.sizeOf4
  v4 := Tryz.zeroValue4
  t9 := Tryz.underlying9
  a9 := Tryz.isAgg9
  z9 := Tryz.sizeOf9
  v9 := Tryz.zeroValue9
  t20 := Tryz.underlying20
  a20 := Tryz.isAgg20
  z20 := Tryz.sizeOf20
  v20 := Tryz.zeroValue20
  t37 := Tryz.underlying138
  a37 := Tryz.isAgg138
  z37 := Tryz.sizeOf138
  v37 := Tryz.zeroValue138
  t70 := Tryz.underlying170
  a70 := Tryz.isAgg170
  z70 := Tryz.sizeOf170
  v70 := Tryz.zeroValue170
  t72 := Tryz.underlying172
  a72 := Tryz.isAgg172
  z72 := Tryz.sizeOf172
  v72 := Tryz.zeroValue172
  t75 := Tryz.underlying175
  a75 := Tryz.isAgg175
  z75 := Tryz.sizeOf175
  v75 := Tryz.zeroValue175
  t164 := Tryz.underlying237
  a164 := Tryz.isAgg237
  z164 := Tryz.sizeOf237
  v164 := Tryz.zeroValue237 }
theorem Tryz.bld_167 : Go.Proofs.Lays.n167 Tryz.prog Tryz.bld_ren := {
  mixed := by kernel_rfl
  f167 := Tryz.func111.trans (congrArg some (by kernel_rfl))
  f240 := Tryz.func149.trans (congrArg some (by kernel_rfl))
  f276 := Tryz.func171.trans (congrArg some (by kernel_rfl))
  t0 := Tryz.underlying0
  a0 := Tryz.isAgg0
  z0 := Tryz.sizeOf0
  v0 := Tryz.zeroValue0
  t4 := Tryz.underlying4
  a4 := Tryz.isAgg4
  z4 := Tryz.sizeOf4
  v4 := Tryz.zeroValue4
  t5 := Tryz.underlying5
  a5 := Tryz.isAgg5
  z5 := Tryz.sizeOf5
  v5 := Tryz.zeroValue5
  t9 := Tryz.underlying9
  a9 := Tryz.isAgg9
  z9 := Tryz.sizeOf9
  v9 := Tryz.zeroValue9
  t20 := Tryz.underlying20
  a20 := Tryz.isAgg20
  z20 := Tryz.sizeOf20
  v20 := Tryz.zeroValue20
  t37 := Tryz.underlying138
  a37 := Tryz.isAgg138
  z37 := Tryz.sizeOf138
  v37 := Tryz.zeroValue138
  t70 := Tryz.underlying170
  a70 := Tryz.isAgg170
  z70 := Tryz.sizeOf170
  v70 := Tryz.zeroValue170
  t72 := Tryz.underlying172
  a72 := Tryz.isAgg172
  z72 := Tryz.sizeOf172
  v72 := Tryz.zeroValue172
  t75 := Tryz.underlying175
  a75 := Tryz.isAgg175
  z75 := Tryz.sizeOf175
  v75 := Tryz.zeroValue175
  t164 := Tryz.underlying237
  a164 := Tryz.isAgg237
  z164 := Tryz.sizeOf237
  v164 := Tryz.zeroValue237 }
theorem Tryz.bld_169 : Go.Proofs.Lays.n169 Tryz.prog Tryz.bld_ren := {
  mixed := by kernel_rfl
  f169 := Tryz.func108.trans (congrArg some (by kernel_rfl))
  t0 := Tryz.underlying0
  a0 := Tryz.isAgg0
  z0 := Tryz.sizeOf0
  v0 := Tryz.zeroValue0
  t3 := Tryz.underlying3
  a3 := Tryz.isAgg3
  z3 := Tryz.sizeOf3
  v3 := Tryz.zeroValue3
  t9 := Tryz.underlying9
  a9 := Tryz.isAgg9
  z9 := Tryz.sizeOf9
  v9 := Tryz.zeroValue9
  t37 := Tryz.underlying138
  a37 := Tryz.isAgg138
  z37 := Tryz.sizeOf138
  v37 := Tryz.zeroValue138
  t70 := Tryz.underlying170
  a70 := Tryz.isAgg170
  z70 := Tryz.sizeOf170
  v70 := Tryz.zeroValue170
  t72 := Tryz.underlying172
  a72 := Tryz.isAgg172
  z72 := Tryz.sizeOf172
  v72 := Tryz.zeroValue172
  t127 := Tryz.underlying221
  a127 := Tryz.isAgg221
  z127 := Tryz.sizeOf221
  v127 := Tryz.zeroValue221 }
theorem Tryz.bld_170 : Go.Proofs.Lays.n170 Tryz.prog Tryz.bld_ren := {
  mixed := by kernel_rfl
  f170 := Tryz.func107.trans (congrArg some (by kernel_rfl))
  t0 := Tryz.underlying0
  a0 := Tryz.isAgg0
  z0 := Tryz.sizeOf0
  v0 := Tryz.zeroValue0
  t3 := Tryz.underlying3
  a3 := Tryz.isAgg3
  z3 := Tryz.sizeOf3
  v3 := Tryz.zeroValue3
  t37 := Tryz.underlying138
  a37 := Tryz.isAgg138
  z37 := Tryz.sizeOf138
  v37 := Tryz.zeroValue138
  t70 := Tryz.underlying170
  a70 := Tryz.isAgg170
  z70 := Tryz.sizeOf170
  v70 := Tryz.zeroValue170
  t72 := Tryz.underlying172
  a72 := Tryz.isAgg172
  z72 := Tryz.sizeOf172
  v72 := Tryz.zeroValue172 }
theorem Tryz.bld_240 : Go.Proofs.Lays.n240 Tryz.prog Tryz.bld_ren := {
  mixed := by kernel_rfl
  f240 := Tryz.func149.trans (congrArg some (by kernel_rfl))
  f276 := Tryz.func171.trans (congrArg some (by kernel_rfl))
  t0 := Tryz.underlying0
  a0 := Tryz.isAgg0
  z0 := Tryz.sizeOf0
  v0 := Tryz.zeroValue0
  t4 := Tryz.underlying4
  a4 := Tryz.isAgg4
  z4 := Tryz.sizeOf4
  v4 := Tryz.zeroValue4
  t9 := Tryz.underlying9
  a9 := Tryz.isAgg9
  z9 := Tryz.sizeOf9
  v9 := Tryz.zeroValue9
  t20 := Tryz.underlying20
  a20 := Tryz.isAgg20
  z20 := Tryz.sizeOf20
  v20 := Tryz.zeroValue20
  t70 := Tryz.underlying170
  a70 := Tryz.isAgg170
  z70 := Tryz.sizeOf170
  v70 := Tryz.zeroValue170
  t72 := Tryz.underlying172
  a72 := Tryz.isAgg172
  z72 := Tryz.sizeOf172
  v72 := Tryz.zeroValue172
  t164 := Tryz.underlying237
  a164 := Tryz.isAgg237
  z164 := Tryz.sizeOf237
  v164 := Tryz.zeroValue237 }
theorem Tryz.bld_241 : Go.Proofs.Lays.n241 Tryz.prog Tryz.bld_ren := {
  mixed := by kernel_rfl
  f241 := Tryz.func150.trans (congrArg some (by kernel_rfl))
  f277 := Tryz.func172.trans (congrArg some (by kernel_rfl))
  t0 := Tryz.underlying0
  a0 := Tryz.isAgg0
  z0 := Tryz.sizeOf0
  v0 := Tryz.zeroValue0
  t3 := Tryz.underlying3
  a3 := Tryz.isAgg3
  z3 := Tryz.sizeOf3
  v3 := Tryz.zeroValue3
  t37 := Tryz.underlying138
  a37 := Tryz.isAgg138
  z37 := Tryz.sizeOf138
  v37 := Tryz.zeroValue138
  t70 := Tryz.underlying170
  a70 := Tryz.isAgg170
  z70 := Tryz.sizeOf170
  v70 := Tryz.zeroValue170
  t72 := Tryz.underlying172
  a72 := Tryz.isAgg172
  z72 := Tryz.sizeOf172
  v72 := Tryz.zeroValue172 }
theorem Tryz.bld_x : Builder.Extra Tryz.prog Tryz.bld_ren := {
  sizeBuilder := by kernel_rfl
  liesBuilder := by kernel_rfl
  t5 := Tryz.underlying5
  a5 := Tryz.isAgg5
  z5 := Tryz.sizeOf5
  v5 := Tryz.zeroValue5
  infoByte := by kernel_rfl
  cellsByte := by kernel_rfl
  sizeByte := by kernel_rfl
  neB5 := by decide }
namespace YtdnebgilkfafhaaGreatDoor
open Go.RowKit
/-- A builder in block b, all of its own from block B on, that holds the bytes l. -/
def Bld (B b : Nat) (l : List UInt8) (w : World) : Prop := Lib.IsBuilderF 172 5 B b (Lib.byteCells l) w
/-- Every block that is neither the builder's nor a row of bytes is as it was. -/
def Kept (b : Nat) (w w' : World) : Prop := Lib.OthersKept 5 (some b) w w'

theorem bld_writeByte (B b : Nat) (l : List UInt8) (c : UInt8) (w : World) (h : Bld B b l w) (hlen : l.length + 1 ≤ 140737488355328) (hBw : B ≤ w.heap.size) :
    Calls Tryz.prog 111 #[.pointer (some ⟨b, 0, none⟩), .int .u8 (c.toNat : Int)] w fun e w' => e = .returned .nilIface ∧ Bld B b (l ++ [c]) w' ∧ Below B w w' ∧ Kept b w w' := by
  refine (Any.Builder_WriteByte_k Tryz.bld_167 Tryz.bld_x B b (Lib.byteCells l) (c.toNat : Int) w h (by simpa [Lib.byteCells] using hlen) hBw).mono ?_
  rintro e w' ⟨he, hb, hbe, hk⟩
  refine ⟨he, .inr ?_, hbe, hk⟩
  have : Lib.byteCells (l ++ [c]) = Lib.byteCells l ++ [.int .u8 (c.toNat : Int)] := by simp [Lib.byteCells]
  rw [this]; exact hb
theorem bld_writeInt (B b : Nat) (l : List UInt8) (x : Int) (w : World) (h : Bld B b l w) (h0 : 0 ≤ x) (h1 : x < 256) (hlen : l.length + 1 ≤ 140737488355328) (hBw : B ≤ w.heap.size) :
    Calls Tryz.prog 111 #[.pointer (some ⟨b, 0, none⟩), .int .u8 x] w fun e w' => e = .returned .nilIface ∧ Bld B b (l ++ [UInt8.ofNat x.toNat]) w' ∧ Below B w w' ∧ Kept b w w' := by
  have e : x = ((UInt8.ofNat x.toNat).toNat : Int) := by simp; omega
  have := bld_writeByte B b l (UInt8.ofNat x.toNat) w h hlen hBw
  rwa [← e] at this
theorem bld_writeString (B b : Nat) (l s : List UInt8) (w : World) (h : Bld B b l w) (hlen : l.length + s.length ≤ 140737488355328) (hBw : B ≤ w.heap.size) :
    Calls Tryz.prog 106 #[.pointer (some ⟨b, 0, none⟩), .string ⟨s.toArray⟩] w fun e w' => e = .returned (.tuple #[.int .i64 (s.length : Int), .nilIface]) ∧ Bld B b (l ++ s) w' ∧ Below B w w' ∧ Kept b w w' := by
  refine (Any.Builder_WriteString_k Tryz.bld_166 Tryz.bld_x B b (Lib.byteCells l) ⟨s.toArray⟩ w h (by simpa [Lib.byteCells, ByteArray.size] using hlen) hBw).mono ?_
  rintro e w' ⟨he, hb, hbe, hk⟩
  refine ⟨by simpa [ByteArray.size] using he, .inr ?_, hbe, hk⟩
  have : Lib.byteCells (l ++ s) = Lib.byteCells l ++ Lib.strCells ⟨s.toArray⟩ := by simp [Lib.byteCells, Lib.strCells_eq]
  rw [this]; exact hb
theorem bld_string (B b : Nat) (l : List UInt8) (w : World) (h : Bld B b l w) (hBw : B ≤ w.heap.size) :
    Calls Tryz.prog 108 #[.pointer (some ⟨b, 0, none⟩)] w fun e w' => e = .returned (.string ⟨l.toArray⟩) ∧ Bld B b l w' ∧ Below B w w' ∧ Kept b w w' :=
  Any.Builder_String_any_k Tryz.bld_169 Tryz.bld_x B b l w h hBw
theorem bld_grow (B b n : Nat) (w : World) (hB : B ≤ b) (hbk : w.heap[b]? = some (.cells #[.pointer none, .slice none 0 0] 172 (0, 0))) (hBw : B ≤ w.heap.size) (hn : n ≤ 281474976710656) :
    Calls Tryz.prog 105 #[.pointer (some ⟨b, 0, none⟩), .int .i64 (n : Int)] w fun e w' => e = .returned (.tuple #[]) ∧ Bld B b [] w' ∧ Below B w w' :=
  (Any.Builder_Grow_fresh Tryz.bld_165 Tryz.bld_x B b n w hB hbk hBw hn).mono fun _ _ ⟨he, hb, hbe⟩ => ⟨he, .inr (Lib.BuilderAtF.of hb), hbe⟩
theorem heap_keep {w w' : World} {g : Nat} {o : Obj} (h : w.heap[g]? = some o) (hb : Below w.heap.size w w') : w'.heap[g]? = some o := by
  rcases Nat.lt_or_ge g w.heap.size with hlt | hge
  · rw [hb.block g hlt]; exact h
  · rw [Array.getElem?_eq_none hge] at h; cases h
theorem bldAt_below {T e : TypeId} {B b : Nat} {p : Value} {bs : List Value} {w w' : World} (h : Lib.BuilderAtF T e B b p bs w) (hb : Below w.heap.size w w') : Lib.BuilderAtF T e B b p bs w' := by
  obtain ⟨hB, v, h1, ⟨h2, h3⟩, h4⟩ := h
  refine ⟨hB, v, heap_keep h1 hb, ⟨h2, ?_⟩, h4⟩
  rcases h3 with h3 | ⟨g, cap, cur, fz, hv, hg, hh, r⟩
  · exact .inl h3
  · exact .inr ⟨g, cap, cur, fz, hv, hg, heap_keep hh hb, r⟩
/-- A builder is kept by a call that leaves all that was there. -/
theorem Bld.below {B b : Nat} {l : List UInt8} {w w' : World} (h : Bld B b l w) (hb : Below w.heap.size w w') : Bld B b l w' :=
  h.elim (fun x => .inl (bldAt_below x hb)) (fun x => .inr (bldAt_below x hb))
/-- A builder just made. -/
theorem bld_new (B : Nat) (w : World) (hB : B ≤ w.heap.size) : Bld B w.heap.size [] (w.alloc (.cells #[.pointer none, .slice none 0 0] 172)) :=
  .inl ⟨hB, .slice none 0 0, heap_alloc_new w _, ⟨by simp [Lib.byteCells], .inl ⟨rfl, rfl⟩⟩, by simp [Value.ownBlock]⟩
end YtdnebgilkfafhaaGreatDoor
end Go.Proofs
namespace Go.Proofs
open Go.Shelf
def Tryz.rpt_ren : Go.Shelf.Ren := ⟨fun | 99 => 90 | 105 => 71 | 165 => 105 | 166 => 106 | 169 => 108 | 170 => 107 | 206 => 124 | 212 => 104 | 240 => 149 | 241 => 150 | 263 => 147 | 264 => 148 | 276 => 171 | 277 => 172 | n => n, fun | 0 => 0 | 3 => 3 | 4 => 4 | 5 => 5 | 9 => 9 | 20 => 20 | 37 => 138 | 46 => 158 | 51 => 89 | 53 => 123 | 70 => 170 | 72 => 172 | 75 => 175 | 76 => 176 | 80 => 179 | 109 => 168 | 127 => 221 | 146 => 217 | 148 => 219 | 164 => 237 | n => n, fun  | n => n⟩
theorem Tryz.rpt_105 : Go.Proofs.Lays.n105 Tryz.prog Tryz.rpt_ren := {
  mixed := by kernel_rfl
  f99 := Tryz.func90.trans (congrArg some (by kernel_rfl))
  f105 := Tryz.func71.trans (congrArg some (by kernel_rfl))
  f165 := Tryz.func105.trans (congrArg some (by kernel_rfl))
  f166 := Tryz.func106.trans (congrArg some (by kernel_rfl))
  f169 := Tryz.func108.trans (congrArg some (by kernel_rfl))
  f170 := Tryz.func107.trans (congrArg some (by kernel_rfl))
  f206 := Tryz.func124.trans (congrArg some (by kernel_rfl))
  f212 := Tryz.func104.trans (congrArg some (by kernel_rfl))
  f240 := Tryz.func149.trans (congrArg some (by kernel_rfl))
  f241 := Tryz.func150.trans (congrArg some (by kernel_rfl))
  f263 := Tryz.func147.trans (congrArg some (by kernel_rfl))
  f264 := Tryz.func148.trans (congrArg some (by kernel_rfl))
  f276 := Tryz.func171.trans (congrArg some (by kernel_rfl))
  f277 := Tryz.func172.trans (congrArg some (by kernel_rfl))
  t0 := Tryz.underlying0
  a0 := Tryz.isAgg0
  z0 := Tryz.sizeOf0
  v0 := Tryz.zeroValue0
  t3 := Tryz.underlying3
  a3 := Tryz.isAgg3
  z3 := Tryz.sizeOf3
  v3 := Tryz.zeroValue3
  t4 := Tryz.underlying4
  a4 := Tryz.isAgg4
  z4 := Tryz.sizeOf4
  v4 := Tryz.zeroValue4
  t5 := Tryz.underlying5
  a5 := Tryz.isAgg5
  z5 := Tryz.sizeOf5
  v5 := Tryz.zeroValue5
  t9 := Tryz.underlying9
  a9 := Tryz.isAgg9
  z9 := Tryz.sizeOf9
  v9 := Tryz.zeroValue9
  t20 := Tryz.underlying20
  a20 := Tryz.isAgg20
  z20 := Tryz.sizeOf20
  v20 := Tryz.zeroValue20
  t37 := Tryz.underlying138
  a37 := Tryz.isAgg138
  z37 := Tryz.sizeOf138
  v37 := Tryz.zeroValue138
  t46 := Tryz.underlying158
  a46 := Tryz.isAgg158
  z46 := Tryz.sizeOf158
  v46 := Tryz.zeroValue158
  t51 := Tryz.underlying89
  a51 := Tryz.isAgg89
  z51 := Tryz.sizeOf89
  v51 := Tryz.zeroValue89
  t53 := Tryz.underlying123
  a53 := Tryz.isAgg123
  z53 := Tryz.sizeOf123
  v53 := Tryz.zeroValue123
  t70 := Tryz.underlying170
  a70 := Tryz.isAgg170
  z70 := Tryz.sizeOf170
  v70 := Tryz.zeroValue170
  t72 := Tryz.underlying172
  a72 := Tryz.isAgg172
  z72 := Tryz.sizeOf172
  v72 := Tryz.zeroValue172
  t75 := Tryz.underlying175
  a75 := Tryz.isAgg175
  z75 := Tryz.sizeOf175
  v75 := Tryz.zeroValue175
  t76 := Tryz.underlying176
  a76 := Tryz.isAgg176
  z76 := Tryz.sizeOf176
  v76 := Tryz.zeroValue176
  t109 := Tryz.underlying168
  a109 := Tryz.isAgg168
  z109 := Tryz.sizeOf168
  v109 := Tryz.zeroValue168
  t127 := Tryz.underlying221
  a127 := Tryz.isAgg221
  z127 := Tryz.sizeOf221
  v127 := Tryz.zeroValue221
  t146 := Tryz.underlying217
  a146 := Tryz.isAgg217
  z146 := Tryz.sizeOf217
  v146 := Tryz.zeroValue217
  t148 := Tryz.underlying219
  a148 := Tryz.isAgg219
  z148 := Tryz.sizeOf219
  v148 := Tryz.zeroValue219
  t164 := Tryz.underlying237
  a164 := Tryz.isAgg237
  z164 := Tryz.sizeOf237
  v164 := Tryz.zeroValue237 }
theorem Tryz.rpt_x : Builder.Extra Tryz.prog Tryz.rpt_ren := {
  sizeBuilder := by kernel_rfl
  liesBuilder := by kernel_rfl
  t5 := Tryz.underlying5
  a5 := Tryz.isAgg5
  z5 := Tryz.sizeOf5
  v5 := Tryz.zeroValue5
  infoByte := by kernel_rfl
  cellsByte := by kernel_rfl
  sizeByte := by kernel_rfl
  neB5 := by decide }
namespace YtdnebgilkfafhaaGreatDoor
open Go.RowKit
theorem repeatL_one (x : UInt8) : ∀ c : Nat, Lib.repeatL [x] c = List.replicate c x
  | 0 => rfl
  | c + 1 => by simp [Lib.repeatL, repeatL_one x c, List.replicate_succ]
/-- So many zeros. -/
theorem repeat0 (c : Nat) (w : World) (hc : c ≤ 1099511627776) :
    Calls Tryz.prog 71 #[.string ⟨#[0]⟩, .int .i64 (c : Int)] w fun e w' => e = .returned (.string ⟨(List.replicate c (0 : UInt8)).toArray⟩) ∧ Below w.heap.size w w' := by
  refine (Any.strings_Repeat Tryz.rpt_105 Tryz.rpt_x ⟨#[0]⟩ c w (by omega) (by show 1 * c ≤ _; omega)).mono ?_
  rintro e w' ⟨he, hb⟩
  have : Lib.repeatL (⟨#[0]⟩ : ByteArray).data.toList c = List.replicate c 0 := repeatL_one 0 c
  rw [this] at he
  exact ⟨he, hb⟩
theorem repeat0_int (x : Int) (w : World) (h0 : 0 ≤ x) (h1 : x ≤ 1099511627776) :
    Calls Tryz.prog 71 #[.string ⟨#[0]⟩, .int .i64 x] w fun e w' => e = .returned (.string ⟨(List.replicate x.toNat (0 : UInt8)).toArray⟩) ∧ Below w.heap.size w w' := by
  obtain ⟨n, rfl⟩ := Int.eq_ofNat_of_zero_le h0
  exact repeat0 n w (by omega)
end YtdnebgilkfafhaaGreatDoor
end Go.Proofs
