/- Words that all walks of this seat share: what a call returns and leaves. Small facts on bytes and worlds. No condition. A slice that reads as a list of cells, nil let in; kept over draws, new blocks, stores elsewhere. No condition. []byte as a text. append of one element to a row of the call's own, whatever the element's type of one cell: said so that a walk takes it in one line. Small facts on blocks; a slice in memory, with its capacity. No condition. What a block holds behind a store of many cells. No condition. Plain Lean: the order of texts. No program in sight. -/
import Derived.Test.YtdnebgilkfafhaaGreatDoorProg
import Derived.WalkKit
import Derived.WalkSpells
import Derived.WalkLawsBesides
import Derived.Handy
import Derived.Outline
import Derived.Lib.Hide
import Derived.Laws.OwnMore
import Derived.Deep.Draws
import Derived.Deep.AppendLies
import Derived.Laws.MakeOwn
import Derived.OwnWalk
import Derived.Laws.AppendOwnNone
import Derived.Deep.RegionHeld3
import Derived.Lib.Bytealg
namespace Go.Proofs.YtdnebgilkfafhaaGreatDoor
open Go.RowKit

/-- The call returns v and leaves the world as it was. -/
def Ret (v : Value) (w : World) (e : Ending) (w' : World) : Prop := e = .returned v ∧ w = w'
/-- The call returns some value of which φ holds in the world that it leaves; what was there is as it was. -/
def RetB (φ : Value → World → Prop) (w : World) (e : Ending) (w' : World) : Prop := ∃ v, e = .returned v ∧ φ v w' ∧ Below w.heap.size w w'

/-- The length of a text in a slot: for a loop's measure. -/
def strLen : Value → Nat | .string s => s.size | _ => 0
theorem ba_get (l : List UInt8) (k : Nat) (h : k < (⟨l.toArray⟩ : ByteArray).size) : (⟨l.toArray⟩ : ByteArray)[k] = l[k]'(by simpa [ByteArray.size] using h) := rfl
theorem ba_cut (l : List UInt8) (i j : Nat) : (⟨l.toArray⟩ : ByteArray).extract i j = ⟨((l.drop i).take (j - i)).toArray⟩ := by
  apply ByteArray.ext; simp [ByteArray.data_extract]
theorem ba_from (l : List UInt8) (i : Nat) : (⟨l.toArray⟩ : ByteArray).extract i l.length = ⟨(l.drop i).toArray⟩ := by
  rw [ba_cut, List.take_of_length_le (by simp)]
theorem ba_upto (l : List UInt8) (j : Nat) : (⟨l.toArray⟩ : ByteArray).extract 0 j = ⟨(l.take j).toArray⟩ := by
  rw [ba_cut]; simp
theorem cut_all (l : List UInt8) (i : Nat) : List.take (l.length - i) (List.drop i l) = List.drop i l := List.take_of_length_le (by simp)
theorem ba_add (x y : List UInt8) : (⟨x.toArray⟩ : ByteArray) ++ ⟨y.toArray⟩ = ⟨(x ++ y).toArray⟩ := ByteArray.mk_append_mk x y
theorem ret_i {k : IntKind} {a b : Int} (h : a = b) : Value.int k a = .int k b := by rw [h]
theorem below_drewN {B : Nat} {a w : World} (h : Below B a w) (n : Nat) : Below B a (w.drewN n) := ⟨h.os, h.tape, h.output, h.size, h.block⟩
end Go.Proofs.YtdnebgilkfafhaaGreatDoor
namespace Go.Proofs.YtdnebgilkfafhaaGreatDoor
open Go.RowKit

theorem addr_add (b off j : Nat) : (⟨b, off, none⟩ : Addr).add j = ⟨b, off + j, none⟩ := by
  unfold Addr.add; split
  · next h => rw [h]; rfl
  · rfl

/-- The slice at A, of n elements, k cells each, holds the cells xs. -/
def Rd (w : World) (k : Nat) (A : Option Addr) (n : Nat) (xs : List Value) : Prop :=
  xs.length = n * k ∧ (0 < n → ∃ b off, A = some ⟨b, off, none⟩ ∧ b < w.heap.size ∧ ∀ j, j < xs.length → w.cell? ⟨b, off + j, none⟩ = xs[j]?)

section
variable {w w' : World} {k n : Nat} {A : Option Addr} {xs : List Value}
theorem Rd.nil : Rd w k none 0 [] := ⟨by simp, fun h => absurd h (by omega)⟩
theorem Rd.zero : Rd w k A 0 [] := ⟨by simp, fun h => absurd h (by omega)⟩
theorem Rd.len (h : Rd w k A n xs) : xs.length = n * k := h.1
theorem Rd.len1 (h : Rd w 1 A n xs) : xs.length = n := by have := h.1; omega
theorem Rd.keep (h : Rd w k A n xs) {B : Nat} (hb : Below B w w') (hB : w.heap.size ≤ B) : Rd w' k A n xs :=
  ⟨h.1, fun hn => by
    obtain ⟨b, off, e, hb', hc⟩ := h.2 hn
    exact ⟨b, off, e, Nat.lt_of_lt_of_le hb' hb.size, fun j hj => (hb.cell (p := ⟨b, off + j, none⟩) (Nat.lt_of_lt_of_le hb' hB)).trans (hc j hj)⟩⟩
theorem Rd.below (h : Rd w k A n xs) (hb : Below w.heap.size w w') : Rd w' k A n xs := h.keep hb (Nat.le_refl _)
theorem Rd.drewN (h : Rd w k A n xs) (m : Nat) : Rd (w.drewN m) k A n xs := h
theorem Rd.drew (h : Rd w k A n xs) : Rd w.drew k A n xs := h
theorem Rd.alloc (h : Rd w k A n xs) (o : Obj) : Rd (w.alloc o) k A n xs := h.below ((Below.refl _ _).alloc (Nat.le_refl _) o)
/-- The address and the cells of element i (k cells). -/
theorem Rd.at1 (h : Rd w 1 A n xs) {i : Nat} (hi : i < n) : ∃ b off, A = some ⟨b, off, none⟩ ∧ b < w.heap.size ∧ w.cell? ⟨b, off + i, none⟩ = xs[i]? := by
  obtain ⟨b, off, e, hb, hc⟩ := h.2 (by omega)
  exact ⟨b, off, e, hb, hc i (by have := h.1; omega)⟩
theorem Rd.all (h : Rd w k A n xs) (hn : 0 < n) : ∃ b off, A = some ⟨b, off, none⟩ ∧ b < w.heap.size ∧ ∀ j, j < xs.length → w.cell? ⟨b, off + j, none⟩ = xs[j]? := h.2 hn
/-- A block just made, read whole. -/
theorem Rd.new (w : World) (xs : List Value) (t : TypeId) : Rd (w.alloc (.cells xs.toArray t)) 1 (some ⟨w.heap.size, 0, none⟩) xs.length xs :=
  ⟨by simp, fun _ => ⟨w.heap.size, 0, rfl, by simp, fun j hj => by simp [go_sem, hj]⟩⟩
/-- What the call's own row reads as. -/
theorem Rd.own {base : Nat} {e : TypeId} {c : Nat} (h : w.ownsRow base e k (.slice A n c) n xs) : Rd w k A n xs := by
  refine ⟨h.1, fun hn => ?_⟩
  obtain ⟨g, hA, hlt⟩ : ∃ g, A = some ⟨g, 0, none⟩ ∧ g < w.heap.size := by
    rcases h.2 with ⟨_, h0⟩ | ⟨g, cap, cur, hv, _, hh, _⟩
    · omega
    · refine ⟨g, by injection hv, ?_⟩
      rcases Nat.lt_or_ge g w.heap.size with hlt | hge
      · exact hlt
      · rw [Array.getElem?_eq_none hge] at hh; cases hh
  subst hA
  refine ⟨g, 0, rfl, hlt, fun j hj => ?_⟩
  have := h.cells (g := g) rfl j xs[j] (List.getElem?_eq_getElem hj)
  rw [addr_add] at this
  rw [this, List.getElem?_eq_getElem hj]
end

/-- Texts as cells. -/
def strs (l : List (List UInt8)) : List Value := l.map fun s => .string ⟨s.toArray⟩
theorem strs_get (l : List (List UInt8)) (i : Nat) (h : i < l.length) : (strs l)[i]? = some (.string ⟨l[i].toArray⟩) := by simp [strs, h]
theorem strs_len (l : List (List UInt8)) : (strs l).length = l.length := by simp [strs]
theorem strs_snoc (l : List (List UInt8)) (s : List UInt8) : strs (l ++ [s]) = strs l ++ [.string ⟨s.toArray⟩] := by simp [strs]
end Go.Proofs.YtdnebgilkfafhaaGreatDoor
namespace Go.Proofs.YtdnebgilkfafhaaGreatDoor
open Go.RowKit
theorem bytes_conv (w : World) (b off len cap : Nat) (l : List UInt8) (hl : l.length = len) (h : ∀ j (hj : j < l.length), w.cell? ⟨b, off + j, none⟩ = some (.int .u8 (l[j].toNat : Int))) :
    (convert 138 9 (.slice (some ⟨b, off, none⟩) len cap)).run Tryz.prog w = .ok (.string ⟨l.toArray⟩) w := by
  subst hl
  rw [run_convert_bytes_string w _ _ _ _ _ _ Tryz.underlying138 Tryz.underlying5 Tryz.underlying9]
  have hlc := run_loadCells_list (P := Tryz.prog) w ⟨b, off, none⟩ ((l.map fun c => (c.toNat : Int)).map (Value.int .u8)) (fun j v hv => by
    rw [addr_add]
    simp only [List.map_map, List.getElem?_map] at hv
    rcases Nat.lt_or_ge j l.length with hj | hj
    · rw [List.getElem?_eq_getElem hj] at hv
      simp at hv
      rw [h j hj, ← hv]
    · rw [List.getElem?_eq_none hj] at hv; simp at hv)
  rw [run_bytesToString w ⟨b, off, none⟩ l.length cap (l.map fun c => (c.toNat : Int)) (by simpa using hlc)]
  congr 2
  have : ∀ (l : List UInt8) (s : ByteArray), (l.map fun c => (c.toNat : Int)).foldl (fun r n => r.push (UInt8.ofNat n.toNat)) s = ⟨(s.data.toList ++ l).toArray⟩ := by
    intro l
    induction l with
    | nil => intro s; apply ByteArray.ext; simp
    | cons c l ih =>
      intro s
      simp only [List.map_cons, List.foldl_cons, ih]
      apply ByteArray.ext
      simp
  rw [this]; rfl
/-- One byte made into a text. -/
theorem byte_conv (w : World) (b : Nat) (c : UInt8) (cap : Nat) (h : w.cell? ⟨b, 0, none⟩ = some (.int .u8 (c.toNat : Int))) :
    (convert 138 9 (.slice (some ⟨b, 0, none⟩) 1 cap)).run Tryz.prog w = .ok (.string ⟨[c].toArray⟩) w :=
  bytes_conv w b 0 1 cap [c] rfl (fun j hj => by
    obtain rfl : j = 0 := by simpa using hj
    simpa using h)
end Go.Proofs.YtdnebgilkfafhaaGreatDoor
namespace Go.Proofs.YtdnebgilkfafhaaGreatDoor
open Go.RowKit

theorem below_own {base : Nat} {e : TypeId} {k n : Nat} {v : Value} {xs : List Value} {w w' : World} (hown : w.ownsRow base e k v n xs) (hg : w.grownBy w' v.ownBlock) (hB : base ≤ w.heap.size) : Below base w w' :=
  (Below.refl _ _).grown hg hB fun g hg' => (hown.lt g hg').1

theorem own_below {base : Nat} {e : TypeId} {k n : Nat} {v : Value} {xs : List Value} {w w' : World} (h : w.ownsRow base e k v n xs) (hb : Below w.heap.size w w') : w'.ownsRow base e k v n xs :=
  h.kept (row := none) ⟨hb.os, hb.tape, hb.output, hb.size, fun i hi _ => hb.block i hi⟩ (by
    cases hv : v.ownBlock with
    | none => exact .inl rfl
    | some g => exact .inr (by simp))
theorem push_one {P : Program} {ops : Array Oper} {rest : List Oper} {o : Oper} {a : Act} {Q : Exit → Act → World → Prop} (hgd : o.guard = none) (s x : Operand) (t : TypeId)
    (ho : o.op = .call { callee := .builtin .append, args := #[s, x], argTypes := #[t, t] })
    (base : Nat) (e : TypeId) (z : Value) (bytes : Nat) (ht : P.underlying t = some (.slice e)) (hi : (P.info? e).map (fun i => (i.zero, i.size, i.bytes)) = some (some z, 1, bytes)) (hzs : z.cells.size = 1)
    (w : World) (v : Value) (n : Nat) (xs : List Value) (y : Value) (hs : a.eval s = v) (hown : w.ownsRow base e 1 v n xs) (hx : a.eval x = .slice (some ⟨w.heap.size, 0, none⟩) 1 1) (h1 : y.oneCell' = true)
    (hbytes : (n + 1) * bytes ≤ 140737488355328) (hb0 : 1 ≤ bytes) (hbase : base ≤ w.heap.size)
    (h : ∀ v' w', w'.ownsRow base e 1 v' (n + 1) (xs ++ [y]) → Below base w w' → wpList P ops Q rest (a.put o.dst v') w') : wpList P ops Q (o :: rest) a (w.alloc (.cells #[y] e)) := by
  obtain ⟨i0, hi0, hz0, hz1, hz2⟩ := info_parts hi
  refine wpList_append_own _ hgd s x t ho base e i0 z 1 bytes ht hi0 hz0 hz1 hz2 hzs (by decide) v n xs hs (hown.alloc _) ⟨w.heap.size, 0, none⟩ 1 1 [y] hx rfl (cell_one_new _ _ _) ?_ ?_ hbytes (by simp; omega) ?_
  · intro u hu; simp at hu; subst hu; exact h1
  · have : n + 1 ≤ (n + 1) * bytes := Nat.le_mul_of_pos_right _ hb0
    simp only [maxLen]; omega
  · intro v' w' h2 h3 _
    refine h v' w' h2 ?_
    exact ((Below.refl _ _).alloc hbase _).trans (below_own (hown.alloc _) h3 (by simp; omega))
/-- append of a whole slice, nil or not, to a row of the call's own. -/
theorem push_many {P : Program} {ops : Array Oper} {rest : List Oper} {o : Oper} {a : Act} {Q : Exit → Act → World → Prop} (hgd : o.guard = none) (s x : Operand) (t : TypeId)
    (ho : o.op = .call { callee := .builtin .append, args := #[s, x], argTypes := #[t, t] })
    (base : Nat) (e : TypeId) (z : Value) (k bytes : Nat) (ht : P.underlying t = some (.slice e)) (hi : (P.info? e).map (fun i => (i.zero, i.size, i.bytes)) = some (some z, k, bytes)) (hzs : z.cells.size = k) (hk : 0 < k)
    (w : World) (v : Value) (n : Nat) (xs : List Value) (A : Option Addr) (m c : Nat) (ys : List Value) (hs : a.eval s = v) (hown : w.ownsRow base e k v n xs) (hx : a.eval x = .slice A m c) (hr : Rd w k A m ys) (hnil : A = none → c = 0) (h1 : ∀ u ∈ ys, u.oneCell' = true)
    (hbytes : (n + m) * bytes ≤ 140737488355328) (hb0 : 1 ≤ bytes) (hbase : base ≤ w.heap.size)
    (h : ∀ v' w', w'.ownsRow base e k v' (n + m) (xs ++ ys) → Below base w w' → wpList P ops Q rest (a.put o.dst v') w') : wpList P ops Q (o :: rest) a w := by
  obtain ⟨i0, hi0, hz0, hz1, hz2⟩ := info_parts hi
  rcases A with _ | ad
  · have hc := hnil rfl
    subst hc
    have hm : m = 0 := by
      rcases Nat.eq_zero_or_pos m with h0 | h0
      · exact h0
      · obtain ⟨b, off, he, _⟩ := hr.2 h0; cases he
    subst hm
    obtain rfl : ys = [] := List.eq_nil_of_length_eq_zero (by have := hr.1; simpa using this)
    exact wpList_append_own_none hgd s x t ho base e i0 k ht hi0 v n xs hs hown hx (h v w (by simpa using hown) (Below.refl _ _))
  · refine wpList_append_own _ hgd s x t ho base e i0 z k bytes ht hi0 hz0 hz1 hz2 hzs hk v n xs hs hown ad m c ys hx hr.1 ?_ h1 ?_ hbytes hbase ?_
    · intro j u hu
      have hj : j < ys.length := by
        rcases Nat.lt_or_ge j ys.length with hj | hj
        · exact hj
        · rw [List.getElem?_eq_none hj] at hu; cases hu
      have hm : 0 < m := by
        rcases Nat.eq_zero_or_pos m with h0 | h0
        · subst h0; have := hr.1; omega
        · exact h0
      obtain ⟨b, off, he, _, hc⟩ := hr.2 hm
      injection he with he
      subst he
      rw [addr_add, hc j hj, hu]
    · have : n + m ≤ (n + m) * bytes := Nat.le_mul_of_pos_right _ hb0
      simp only [maxLen]; omega
    · intro v' w' h2 h3 _
      exact h v' w' h2 (below_own hown h3 hbase)
theorem info_str : (Tryz.prog.info? 9).map (fun i => (i.zero, i.size, i.bytes)) = some (some (.string ⟨#[]⟩), 1, 16) := by kernel_rfl
theorem step_pushes {P : Program} {ops : Array Oper} {o : Oper} {a : Act} {K : Act → World → Prop} {Q : Exit → Act → World → Prop} {E : Prop} (hgd : o.guard = none) (s x : Operand) (t : TypeId)
    (ho : o.op = .call { callee := .builtin .append, args := #[s, x], argTypes := #[t, t] })
    (base : Nat) (e : TypeId) (z : Value) (bytes : Nat) (ht : P.underlying t = some (.slice e)) (hi : (P.info? e).map (fun i => (i.zero, i.size, i.bytes)) = some (some z, 1, bytes)) (hzs : z.cells.size = 1)
    (w : World) (v : Value) (n : Nat) (xs ys : List Value) (H off m c : Nat) (hs : a.eval s = v) (hown : w.ownsRow base e 1 v n xs) (hx : a.eval x = .slice (some ⟨H, off, none⟩) m c) (hm : ys.length = m) (hm0 : 0 < m) (hy : ∀ j u, ys[j]? = some u → w.cell? ⟨H, off + j, none⟩ = some u) (h1 : ∀ u ∈ ys, u.oneCell' = true)
    (hbytes : (n + m) * bytes ≤ 140737488355328) (hb0 : 1 ≤ bytes) (hbase : base ≤ w.heap.size)
    (h : ∀ A c w', w'.ownsRow base e 1 (.slice A (n + m) c) (n + m) (xs ++ ys) → Below base w w' → K (a.put o.dst (.slice A (n + m) c)) w') :
    if Region.wanted o (yielded ops a.tmps) = true then Oper.wp P o a w K Q else E := by
  obtain ⟨i0, hi0, hz0, hz1, hz2⟩ := info_parts hi
  refine step_append_lies _ hgd s x t ho base e i0 z 1 bytes ht hi0 hz0 hz1 hz2 hzs (by decide) v n xs hs hown ⟨H, off, none⟩ m c ys hx (by rw [hm, Nat.mul_one]) ?_ h1 hm0 ?_ hbytes hbase _ rfl ?_
  · intro j u hu
    rw [addr_add]; exact hy j u hu
  · have : n + m ≤ (n + m) * bytes := Nat.le_mul_of_pos_right _ hb0
    simp only [maxLen]; omega
  · intro g cap w' h2 h3 _ _
    exact h _ _ w' h2 (below_own hown h3 hbase)
theorem own_form' {base : Nat} {e : TypeId} {k n : Nat} {v : Value} {xs : List Value} {w : World} (h : w.ownsRow base e k v n xs) : ∃ A c, v = .slice A n c := by
  rcases h.2 with ⟨rfl, rfl⟩ | ⟨g, cap, cur, rfl, _⟩
  · exact ⟨_, _, rfl⟩
  · exact ⟨_, _, rfl⟩
/-- append of one element, at a plain step, telling which blocks stand as they were. -/
theorem push_one_g {P : Program} {ops : Array Oper} {rest : List Oper} {o : Oper} {a : Act} {Q : Exit → Act → World → Prop} (hgd : o.guard = none) (s x : Operand) (t : TypeId)
    (ho : o.op = .call { callee := .builtin .append, args := #[s, x], argTypes := #[t, t] })
    (base : Nat) (e : TypeId) (z : Value) (bytes : Nat) (ht : P.underlying t = some (.slice e)) (hi : (P.info? e).map (fun i => (i.zero, i.size, i.bytes)) = some (some z, 1, bytes)) (hzs : z.cells.size = 1)
    (w : World) (v : Value) (n : Nat) (xs : List Value) (y : Value) (hs : a.eval s = v) (hown : w.ownsRow base e 1 v n xs) (hx : a.eval x = .slice (some ⟨w.heap.size, 0, none⟩) 1 1) (h1 : y.oneCell' = true)
    (hbytes : (n + 1) * bytes ≤ 140737488355328) (hb0 : 1 ≤ bytes) (hbase : base ≤ w.heap.size)
    (h : ∀ g c w', w'.ownsRow base e 1 (.slice (some ⟨g, 0, none⟩) (n + 1) c) (n + 1) (xs ++ [y]) → Below base w w' → (∀ G, G < w.heap.size → v.ownBlock ≠ some G → w'.heap[G]? = w.heap[G]? ∧ g ≠ G) → wpList P ops Q rest (a.put o.dst (.slice (some ⟨g, 0, none⟩) (n + 1) c)) w') : wpList P ops Q (o :: rest) a (w.alloc (.cells #[y] e)) := by
  obtain ⟨i0, hi0, hz0, hz1, hz2⟩ := info_parts hi
  refine wpList_append_lies _ hgd s x t ho base e i0 z 1 bytes ht hi0 hz0 hz1 hz2 hzs (by decide) v n xs hs (hown.alloc _) ⟨w.heap.size, 0, none⟩ 1 1 [y] hx rfl (cell_one_new _ _ _) ?_ (by decide) ?_ hbytes (by simp; omega) _ rfl ?_
  · intro u hu; simp at hu; subst hu; exact h1
  · have : n + 1 ≤ (n + 1) * bytes := Nat.le_mul_of_pos_right _ hb0
    simp only [maxLen]; omega
  · intro g c w' h2 h3 h4 _
    refine h g c w' h2 (((Below.refl _ _).alloc hbase _).trans (below_own (hown.alloc _) h3 (by simp; omega))) fun G hG hne => ⟨?_, ?_⟩
    · rw [h3.block G (by simp; omega) (fun h => hne h.symm)]
      exact Below.heap_alloc _ _ _ hG
    · rintro rfl
      rcases h4 with h4 | h4
      · exact hne h4
      · simp at h4; omega
/-- make of no element, room for c. -/
theorem make_empty {P : Program} (t e : TypeId) (z : Value) (k bytes : Nat) (ht : P.underlying t = some (.slice e)) (hi : (P.info? e).map (fun i => (i.zero, i.size, i.bytes)) = some (some z, k, bytes)) (c : Nat) (hb : bytes * c ≤ 281474976710656) (h63 : c ≤ 9223372036854775807) :
    ∃ cur : Array Value, cur.size = c * k ∧ ∀ W : World, (Instr.makeSlice t (.int .i64 0) (.int .i64 (c : Int))).run P W = .ok (.slice (some ⟨W.heap.size, 0, none⟩) 0 c) (W.alloc (.cells cur e)) := by
  obtain ⟨i0, hi0, hz0, hz1, hz2⟩ := info_parts hi
  refine ⟨madeCells z.cells (c * i0.size), by rw [hz1]; exact size_madeCells _ _, fun W => ?_⟩
  have := run_make (P := P) W t e i0 z ht hi0 hz0 .i64 .i64 0 c (Int.le_refl _) (by omega) (by rw [hz2]; have h : ((bytes * c : Nat) : Int) ≤ 281474976710656 := by omega
                                                                                               rwa [Int.natCast_mul] at h) (by omega)
  simpa using this
end Go.Proofs.YtdnebgilkfafhaaGreatDoor
namespace Go.Proofs.YtdnebgilkfafhaaGreatDoor
open Go.RowKit
set_option linter.unusedVariables false
theorem frozen_of (w : World) (g j : Nat) (cs : Array Value) (t : TypeId) (h : w.heap[g]? = some (.cells cs t (0, 0))) : w.frozen? ⟨g, j, none⟩ = false := by simp [World.frozen?, h]
theorem cell_row (w : World) (b i : Nat) (C : Array Value) (t : TypeId) (h : w.heap[b]? = some (.cells C t (0, 0))) : w.cell? ⟨b, i, none⟩ = C[i]? := cell_of_row w b i C t (0, 0) h
/-- A slice in memory, with its capacity. -/
def SlAt (w : World) (k : Nat) (A : Option Addr) (n c : Nat) (xs : List Value) : Prop := Rd w k A n xs ∧ n ≤ c ∧ c ≤ 9223372036854775807 ∧ (A = none → c = 0)
theorem SlAt.below {w w' : World} {k : Nat} {A : Option Addr} {n c : Nat} {xs : List Value} (h : SlAt w k A n c xs) (hb : Below w.heap.size w w') : SlAt w' k A n c xs := ⟨h.1.below hb, h.2⟩
theorem SlAt.alloc {w : World} {k : Nat} {A : Option Addr} {n c : Nat} {xs : List Value} (h : SlAt w k A n c xs) (o : Obj) : SlAt (w.alloc o) k A n c xs := ⟨h.1.alloc o, h.2⟩
/-- A store into a block where the slice doesn't lie. -/
theorem Rd.set {w : World} {k : Nat} {A : Option Addr} {n : Nat} {xs : List Value} (h : Rd w k A n xs) {B : Nat} (hA : A.map Addr.block ≠ some B) (i : Nat) (u : Value) : Rd (w.setCell ⟨B, i, none⟩ u) k A n xs := by
  refine ⟨h.1, fun hn => ?_⟩
  obtain ⟨b, off, rfl, hb, hc⟩ := h.2 hn
  refine ⟨b, off, rfl, by simpa [World.size_setCell] using hb, fun j hj => ?_⟩
  rw [World.cell?_setCell_far _ _ _ _ (by simpa using Ne.symm hA)]
  exact hc j hj
theorem SlAt.set {w : World} {k : Nat} {A : Option Addr} {n c : Nat} {xs : List Value} (h : SlAt w k A n c xs) {B : Nat} (hA : A.map Addr.block ≠ some B) (i : Nat) (u : Value) : SlAt (w.setCell ⟨B, i, none⟩ u) k A n c xs := ⟨h.1.set hA i u, h.2⟩
theorem heap_alloc_2 (w : World) (o1 o2 : Obj) : ((w.alloc o1).alloc o2).heap[w.heap.size + 1]? = some o2 := by
  have := heap_alloc_new (w.alloc o1) o2
  simpa using this
theorem set_at (w : World) (g j : Nat) (cs : Array Value) (y : Value) (t : TypeId) (h : w.heap[g]? = some (.cells cs t (0, 0))) : (w.setCell ⟨g, j, none⟩ y).heap[g]? = some (.cells (cs.setIfInBounds j y) t (0, 0)) := by
  simp [World.setCell, Array.getElem?_modify, h]
theorem blk_lt {w : World} {g : Nat} {o : Obj} (h : w.heap[g]? = some o) : g < w.heap.size := by
  rcases Nat.lt_or_ge g w.heap.size with hlt | hge
  · exact hlt
  · rw [Array.getElem?_eq_none hge] at h; cases h
end Go.Proofs.YtdnebgilkfafhaaGreatDoor
namespace Go.Proofs.YtdnebgilkfafhaaGreatDoor
open Go.RowKit
set_option linter.unusedVariables false
theorem take_set_one (l : List Value) (o : Nat) (v : Value) (h : o < l.length) : (l.set o v).take (o + 1) = l.take o ++ [v] := by
  rw [List.set_eq_take_append_cons_drop, if_pos h]
  have hl : (l.take o).length = o := by rw [List.length_take]; omega
  rw [show o + 1 = (l.take o).length + 1 by rw [hl], List.take_length_add_append]
  simp
theorem heap_setCells_mid {b : Nat} {t : TypeId} : ∀ (vs : List Value) (o : Nat) (w : World) (C : List Value), w.heap[b]? = some (.cells C.toArray t (0, 0)) → o + vs.length ≤ C.length → (w.setCells b o vs).heap[b]? = some (.cells (C.take o ++ vs ++ C.drop (o + vs.length)).toArray t (0, 0))
  | [], o, w, C, h, _ => by
    show w.heap[b]? = _
    rw [h]; simp
  | v :: r, o, w, C, h, hl => by
    simp only [List.length_cons] at hl
    have h1 := set_at w b o C.toArray v t h
    rw [List.setIfInBounds_toArray] at h1
    have h2 := heap_setCells_mid r (o + 1) _ _ h1 (by rw [List.length_set]; omega)
    show (World.setCells (w.setCell ⟨b, o, none⟩ v) b (o + 1) r).heap[b]? = _
    rw [h2, take_set_one _ _ _ (by omega), List.drop_set_of_lt (by omega), List.length_cons]
    have e : o + 1 + r.length = o + (r.length + 1) := by omega
    rw [e]
    simp
theorem heap_setCells_all {b : Nat} {t : TypeId} {w : World} {C vs : List Value} (h : w.heap[b]? = some (.cells C.toArray t (0, 0))) (hl : vs.length = C.length) : (w.setCells b 0 vs).heap[b]? = some (.cells vs.toArray t (0, 0)) := by
  rw [heap_setCells_mid vs 0 w C h (by omega)]
  simp [hl]
end Go.Proofs.YtdnebgilkfafhaaGreatDoor
namespace Go.Proofs.YtdnebgilkfafhaaGreatDoor.Pl
def less (a b : List UInt8) : Bool := Op.bytesLess a b
theorem less_eq (a b : List UInt8) : less a b = Op.bytesLess a b := rfl
theorem u8_lt_irrefl (a : UInt8) : ¬ a < a := by rw [UInt8.lt_iff_toNat_lt]; omega
theorem u8_tri (a b : UInt8) (h1 : ¬ a < b) (h2 : ¬ b < a) : a = b := by
  rw [UInt8.lt_iff_toNat_lt] at h1 h2; exact UInt8.toNat_inj.1 (by omega)
theorem less_cmp : ∀ a b : List UInt8, (less a b = true ↔ Lib.compareBytes a b = -1) ∧ (a = b ↔ Lib.compareBytes a b = 0) ∧ (Lib.compareBytes a b = -1 ∨ Lib.compareBytes a b = 0 ∨ Lib.compareBytes a b = 1)
  | [], [] => by simp [less, Op.bytesLess, Lib.compareBytes]
  | [], _ :: _ => by simp [less, Op.bytesLess, Lib.compareBytes]
  | _ :: _, [] => by simp [less, Op.bytesLess, Lib.compareBytes]
  | a :: x, b :: y => by
    obtain ⟨h1, h2, h3⟩ := less_cmp x y
    unfold less at h1 ⊢
    rw [Op.bytesLess, Lib.compareBytes]
    by_cases e1 : a < b
    · have : a ≠ b := by rintro rfl; exact u8_lt_irrefl _ e1
      simp [e1, this]
    · by_cases e2 : b < a
      · have : a ≠ b := by rintro rfl; exact u8_lt_irrefl _ e2
        simp [e1, e2, this]
      · obtain rfl := u8_tri a b e1 e2
        simp only [e1, decide_false, if_false, Bool.false_or, beq_self_eq_true, Bool.true_and, List.cons.injEq, true_and]
        exact ⟨h1, h2, h3⟩
theorem less_irrefl (a : List UInt8) : less a a = false := by
  cases h : less a a
  · rfl
  · have := (less_cmp a a).1.1 h
    have := (less_cmp a a).2.1.1 rfl
    omega
theorem less_trans : ∀ {a b c : List UInt8}, less a b = true → less b c = true → less a c = true
  | [], [], _, h, _ => by simp [less, Op.bytesLess] at h
  | [], _ :: _, [], _, h => by simp [less, Op.bytesLess] at h
  | [], _ :: _, _ :: _, _, _ => by simp [less, Op.bytesLess]
  | _ :: _, [], _, h, _ => by simp [less, Op.bytesLess] at h
  | _ :: _, _ :: _, [], _, h => by simp [less, Op.bytesLess] at h
  | a :: x, b :: y, c :: z, h1, h2 => by
    unfold less at h1 h2 ⊢
    rw [Op.bytesLess] at h1 h2 ⊢
    simp only [Bool.or_eq_true, Bool.and_eq_true, decide_eq_true_eq, beq_iff_eq] at h1 h2 ⊢
    rcases h1 with h1 | ⟨rfl, h1⟩ <;> rcases h2 with h2 | ⟨rfl, h2⟩
    · left; rw [UInt8.lt_iff_toNat_lt] at h1 h2 ⊢; omega
    · left; exact h1
    · left; exact h2
    · right; exact ⟨rfl, less_trans (a := x) (b := y) (c := z) h1 h2⟩
theorem less_tri (a b : List UInt8) : less a b = true ∨ a = b ∨ less b a = true := by
  induction a generalizing b with
  | nil => cases b <;> simp [less, Op.bytesLess]
  | cons x a ih =>
    cases b with
    | nil => simp [less, Op.bytesLess]
    | cons y b =>
      unfold less at ih ⊢
      rw [Op.bytesLess, Op.bytesLess]
      by_cases e1 : x < y
      · simp [e1]
      · by_cases e2 : y < x
        · simp [e2]
        · obtain rfl := u8_tri x y e1 e2
          rcases ih b with h | h | h
          · simp [h]
          · simp [h]
          · simp [h]
end Go.Proofs.YtdnebgilkfafhaaGreatDoor.Pl
namespace Go.Proofs.YtdnebgilkfafhaaGreatDoor
/-- wpAnyH_take with all that the kernel reckons left to it. -/
theorem tk {P : Program} {ops : Array Oper} {Q : Exit → Act → World → Prop} {md : Region.Mode} {S : World → Prop} (i : Nat) {oi : Oper} {v : Value} {fuel : Nat} {listed : Array Bool} {a : Act} {w : World} (hi : ops[i]? = some oi) (hy : ∀ w, S w → (execOp a.eval oi).run P w = .ok (.value v) w) (hS : S w) (h : wpAnyH P md ops Q S fuel (listed.setIfInBounds i true) (a.put oi.dst v) w)
    (hs : Region.noSelect ops = true := by kernel_rfl) (hf : Region.free md ops listed i = true := by kernel_rfl) (hr : (Region.ready md ops listed).contains i = true := by kernel_rfl) (hw : Region.wanted oi (yielded ops a.tmps) = true := by kernel_rfl) (hQ : ∀ c a w, Q (.panic c) (a.put oi.dst v) w → Q (.panic c) a w := by exact fun _ _ _ h => h) : wpAnyH P md ops Q S (fuel + 1) listed a w :=
  wpAnyH_take hi hs hf hr hQ (Or.inl ⟨hw, hy⟩) hS h
/-- The row of temporaries behind a step, laid bare: the rules of %take's last line, as one. -/
theorem lay9 : (∀ (l : List Value) (i : Nat) (a : Value), l.toArray.setIfInBounds i a = (l.set i a).toArray) ∧ (∀ (x : Value) (l : List Value) (a : Value), (x :: l).set 0 a = a :: l) ∧ (∀ (x : Value) (l : List Value) (n : Nat) (a : Value), (x :: l).set (n + 1) a = x :: l.set n a) ∧ (∀ (l : List Oper) (i : Nat) (h : i < l.toArray.size), l.toArray[i] = l[i]'(by simpa using h)) ∧ (∀ (x : Oper) (l : List Oper) (i : Nat) (h : i + 1 < (x :: l).length), (x :: l)[i + 1] = l[i]'(by simpa using h)) ∧ (∀ (x : Oper) (l : List Oper) (h : 0 < (x :: l).length), (x :: l)[0] = x) :=
  ⟨fun _ _ _ => List.setIfInBounds_toArray .., fun _ _ _ => rfl, fun _ _ _ _ => rfl, fun _ _ _ => rfl, fun _ _ _ _ => rfl, fun _ _ _ => rfl⟩
end Go.Proofs.YtdnebgilkfafhaaGreatDoor
