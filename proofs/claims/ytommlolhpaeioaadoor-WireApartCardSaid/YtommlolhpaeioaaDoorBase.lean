/- Words that all walks of this seat share: what a call returns and leaves. Small facts on bytes and worlds. No condition. -/
import Derived.Test.YtommlolhpaeioaaDoorProg
import Derived.WalkKit
import Derived.WalkSpells
import Derived.WalkLawsBesides
import Derived.Handy
import Derived.Outline
import Derived.Lib.Hide
namespace Go.Proofs.YtommlolhpaeioaaDoor
open Go.RowKit

/-- The call returns v and leaves the world as it was. -/
def Ret (v : Value) (w : World) (e : Ending) (w' : World) : Prop := e = .returned v ∧ w = w'
/-- The call returns some value of which φ holds in the world that it leaves; what was there is as it was. -/
def RetB (φ : Value → World → Prop) (w : World) (e : Ending) (w' : World) : Prop := ∃ v, e = .returned v ∧ φ v w' ∧ Below w.heap.size w w'

/-- The length of a text in a slot: for a loop's measure. -/
def strLen : Value → Nat | .string s => s.size | _ => 0
theorem ba_get (l : List UInt8) (k : Nat) (h : k < (⟨l.toArray⟩ : ByteArray).size) : (⟨l.toArray⟩ : ByteArray)[k] = l[k]'(by simpa [ByteArray.size] using h) := rfl
theorem ba_cut (l : List UInt8) (i j : Nat) : (⟨l.toArray⟩ : ByteArray).extract i j = ⟨((l.drop i).take (j - i)).toArray⟩ := by
  apply ByteArray.ext; simp [ByteArray.data_extract]
theorem ba_from (l : List UInt8) (i : Nat) : (⟨l.toArray⟩ : ByteArray).extract i l.length = ⟨(l.drop i).toArray⟩ := by
  rw [ba_cut, List.take_of_length_le (by simp)]
theorem ba_upto (l : List UInt8) (j : Nat) : (⟨l.toArray⟩ : ByteArray).extract 0 j = ⟨(l.take j).toArray⟩ := by
  rw [ba_cut]; simp
theorem cut_all (l : List UInt8) (i : Nat) : List.take (l.length - i) (List.drop i l) = List.drop i l := List.take_of_length_le (by simp)
theorem ba_add (x y : List UInt8) : (⟨x.toArray⟩ : ByteArray) ++ ⟨y.toArray⟩ = ⟨(x ++ y).toArray⟩ := ByteArray.mk_append_mk x y
theorem ret_i {k : IntKind} {a b : Int} (h : a = b) : Value.int k a = .int k b := by rw [h]
theorem below_drewN {B : Nat} {a w : World} (h : Below B a w) (n : Nat) : Below B a (w.drewN n) := ⟨h.os, h.tape, h.output, h.size, h.block⟩
end Go.Proofs.YtommlolhpaeioaaDoor
