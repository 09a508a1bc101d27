/- '==' of two digests: just if the bytes are the same. -/
import Derived.Test.YtommlolhpaeioaaDoorHashW
import Derived.DeepKeys
namespace Go.Proofs.YtommlolhpaeioaaDoor
open Go.RowKit
set_option linter.unusedVariables false
theorem mapM_some_of {α β : Type} (f : α → Option β) (g : α → β) : ∀ l : List α, (∀ x ∈ l, f x = some (g x)) → l.mapM f = some (l.map g)
  | [], _ => rfl
  | x :: l, h => by
    rw [List.mapM_cons, h x (by simp), mapM_some_of f g l (fun y hy => h y (by simp [hy]))]; rfl
def u8L (b : UInt8) : Lit := .int .u8 (b.toNat : Int)
theorem u8_wf (b : UInt8) : (Lit.int .u8 (b.toNat : Int)).wf = true := by
  have h : ∀ x : Fin 256, (Lit.int .u8 (x.val : Int)).wf = true := by decide +kernel
  exact h ⟨b.toNat, b.toNat_lt⟩
theorem flat_one {α β : Type} (f : α → β) (l : List α) : (l.map fun i => [f i]).flatten = l.map f := by
  induction l with
  | nil => rfl
  | cons x l ih => simp only [List.map_cons, List.flatten_cons, ih]; rfl
theorem flat_range (l : List UInt8) (n : Nat) (h : l.length = n) : ((List.range n).map fun i => [u8L (l.getD i 0)]).flatten = l.map u8L := by
  subst h
  rw [flat_one fun i => u8L (l.getD i 0)]
  refine List.ext_getElem (by simp) fun i h1 h2 => ?_
  have hi : i < l.length := by simpa using h1
  simp [List.getD_eq_getElem?_getD, hi]
theorem formed_byC {l : List UInt8} (h : l.length = 32) : Value.formed Tryd.prog 26 (.agg (byC l).toArray) = true := by
  have hc : Tryd.prog.cellsOf 26 = 32 := by kernel_rfl
  simp [Value.formed, Tryd.underlying26, hc, byC_len, h]
theorem u8L_inj : ∀ {A B : List UInt8}, A.map u8L = B.map u8L → A = B
  | [], [], _ => rfl
  | [], _ :: _, h => by simp at h
  | _ :: _, [], h => by simp at h
  | x :: A, y :: B, h => by
    simp only [List.map_cons, List.cons.injEq] at h
    obtain ⟨h1, h2⟩ := h
    unfold u8L at h1
    injection h1 with _ h3
    rw [UInt8.toNat_inj.1 (by omega : x.toNat = y.toNat), u8L_inj h2]
theorem keyLits_byC {l : List UInt8} (h : l.length = 32) : Tryd.prog.keyLits 2 26 (byC l) = some (l.map u8L) := by
  have hc : Tryd.prog.cellsOf 26 = 32 := by kernel_rfl
  have hc1 : Tryd.prog.cellsOf 5 = 1 := by kernel_rfl
  have hm : (List.range 32).mapM (fun i => Tryd.prog.keyLits 1 5 (((byC l).drop (i * Tryd.prog.cellsOf 5)).take (Tryd.prog.cellsOf 5))) = some ((List.range 32).map fun i => [u8L (l.getD i 0)]) := by
    refine mapM_some_of _ _ _ fun i hi => ?_
    have hi' : i < l.length := by rw [h]; exact List.mem_range.1 hi
    have e : ((byC l).drop i).take 1 = [.int .u8 (l[i].toNat : Int)] := by
      unfold byC
      rw [← List.map_drop, ← List.map_take, List.drop_eq_getElem_cons hi', List.take_succ_cons]; simp
    rw [hc1, Nat.mul_one, e]
    have hd : l.getD i 0 = l[i] := by simp [List.getD_eq_getElem?_getD, hi']
    rw [hd]
    simp [Program.keyLits, Tryd.underlying5, u8_wf, u8L]
  unfold Program.keyLits
  simp only [Tryd.underlying26]
  rw [if_pos (by rw [byC_len, h, hc]), hm]
  show some _ = some _
  rw [flat_range l 32 h]
theorem eql_dig {A B : List UInt8} (hA : A.length = 32) (hB : B.length = 32) (W : World) : (Op.equalIn 10000 26 (.agg (byC A).toArray) (.agg (byC B).toArray)).run Tryd.prog W = .ok (decide (A = B)) W := by
  obtain ⟨r, hr, hiff⟩ := run_equalIn_deep (P := Tryd.prog) 9998 2 26 (by kernel_rfl) W 2 2 (.agg (byC A).toArray) (.agg (byC B).toArray) _ _ (formed_byC hA) (formed_byC hB) (keyLits_byC hA) (keyLits_byC hB)
  have hinj : A.map u8L = B.map u8L ↔ A = B := by
    exact ⟨u8L_inj, fun h => by rw [h]⟩
  have : r = decide (A = B) := by rw [Bool.eq_iff_iff, hiff, hinj]; simp
  rw [← this]; exact hr
end Go.Proofs.YtommlolhpaeioaaDoor
