/- The walk of policy.Keep at a policy that may be: the worlds between its loops. -/
import Derived.Test.YtmncgnmgdkdhaaaGreatDoorPolW6
import Derived.Deep.QuietTactic
import Derived.BigQuiet
namespace Go.Proofs.YtmncgnmgdkdhaaaGreatDoor
open Go.RowKit
set_option linter.unusedVariables false
set_option linter.unusedSimpArgs false
/-- The worlds between Keep's loops. -/
structure KS (p : Pl.Pol) (l : List Pl.Rf) (n : Nat) (o : List Nat) (w : World) (ob pb : Nat) (K : List Bool) (wr : World) : Prop where
  pol : wr.heap[w.heap.size]? = some (.cells #[.int .i64 p.d, .int .i64 p.w, .int .i64 p.mo, .int .i64 p.y] 23 (0, 0))
  kept : wr.heap[w.heap.size + 1]? = some (.cells (bools K).toArray 4 (0, 0))
  len : K.length = n
  ord : ∀ q, q < n → wr.cell? ⟨ob, q, none⟩ = some (.int .i64 ((o.getD q 0 : Nat) : Int))
  per : ∀ k, k < 4 → wr.cell? ⟨pb, k, none⟩ = some (.func (.func (perFn k)) #[] #[])
  bel : Below w.heap.size w wr
  ob0 : w.heap.size + 1 < ob
  obw : ob < wr.heap.size
  pb0 : w.heap.size + 1 < pb
  pbw : pb < wr.heap.size
section
variable {p : Pl.Pol} {l : List Pl.Rf} {n : Nat} {o : List Nat} {w : World} {ob pb : Nat} {K : List Bool} {wr w1 : World}
theorem KS.below (h : KS p l n o w ob pb K wr) (hb : Below wr.heap.size wr w1) : KS p l n o w ob pb K w1 :=
  ⟨(hb.block _ (blk_lt h.pol)).trans h.pol, (hb.block _ (blk_lt h.kept)).trans h.kept, h.len, fun q hq => (hb.cell (p := ⟨ob, q, none⟩) h.obw).trans (h.ord q hq), fun k hk => (hb.cell (p := ⟨pb, k, none⟩) h.pbw).trans (h.per k hk),
    h.bel.trans (hb.mono h.bel.size), h.ob0, Nat.lt_of_lt_of_le h.obw hb.size, h.pb0, Nat.lt_of_lt_of_le h.pbw hb.size⟩
theorem KS.mark (h : KS p l n o w ob pb K wr) (hg : wr.grownBy w1 (some (w.heap.size + 1))) {K1 : List Bool} (hk : w1.heap[w.heap.size + 1]? = some (.cells (bools K1).toArray 4 (0, 0))) (hl : K1.length = n) : KS p l n o w ob pb K1 w1 := by
  have h1 := h.ob0
  have h2 := h.pb0
  refine ⟨(hg.block _ (blk_lt h.pol) (by simp)).trans h.pol, hk, hl, fun q hq => (hg.cell_far ⟨ob, q, none⟩ h.obw (by simp; omega)).trans (h.ord q hq), fun k hk => (hg.cell_far ⟨pb, k, none⟩ h.pbw (by simp; omega)).trans (h.per k hk),
    ⟨hg.os.trans h.bel.os, hg.tape.trans h.bel.tape, hg.output.trans h.bel.output, Nat.le_trans h.bel.size hg.size, fun k hk => (hg.block k (Nat.lt_of_lt_of_le hk h.bel.size) (by simp; omega)).trans (h.bel.block k hk)⟩, h.ob0, Nat.lt_of_lt_of_le h.obw hg.size, h.pb0, Nat.lt_of_lt_of_le h.pbw hg.size⟩
theorem KS.set (h : KS p l n o w ob pb K wr) (i : Nat) (b : Bool) : KS p l n o w ob pb (K.set i b) (wr.setCell ⟨w.heap.size + 1, i, none⟩ (.bool b)) :=
  h.mark (grown_set (World.grownBy.refl _ _) (.inl rfl) _ _) (by rw [set_at _ _ _ _ _ _ h.kept, bools_set]) (by rw [List.length_set]; exact h.len)
end
theorem markF_len (k : Nat) (l : List Pl.Rf) (n : Int) : ∀ (g : List Nat) (met : List Int) (lat : Int × Int) (K : List Bool), (Pl.markF k l n g met lat K).length = K.length
  | [], _, _, _ => rfl
  | i :: r, met, lat, K => by
    unfold Pl.markF
    split
    · rw [markF_len k l n r, List.length_set]
    · split
      · rfl
      · rw [markF_len k l n r, List.length_set]
theorem marksN_len (p : Pl.Pol) (l : List Pl.Rf) (g : List Nat) (K : List Bool) : ∀ k, (marksN p l g K k).length = K.length
  | 0 => rfl
  | k + 1 => by show (Pl.markF k l _ g [] (0, 0) (marksN p l g K k)).length = _; rw [markF_len, marksN_len p l g K k]
/-- Between the groups: a is where the next one begins. -/
structure GrpR (p : Pl.Pol) (l : List Pl.Rf) (n : Nat) (o : List Nat) (w : World) (ob pb a : Nat) (K : List Bool) (wr : World) : Prop where
  st : KS p l n o w ob pb K wr
  le : a ≤ n
  val : ∀ i, i < n → K.getD i false = (decide (i ∈ o.take a) && Pl.keptAny p l (l.getD i default))
  beg : a = 0 ∨ n ≤ a ∨ Pl.mach l o (a - 1) ≠ Pl.mach l o a
def GrpP (p : Pl.Pol) (l : List Pl.Rf) (n : Nat) (o : List Nat) (w : World) (ob pb : Nat) (i : Value) (wr : World) : Prop := ∃ (a : Nat) (K : List Bool), i = .int .i64 a ∧ GrpR p l n o w ob pb a K wr
def ToP (p : Pl.Pol) (l : List Pl.Rf) (n : Nat) (o : List Nat) (w : World) (ob pb a : Nat) (K : List Bool) (i : Value) (wr : World) : Prop := ∃ b : Nat, i = .int .i64 b ∧ a < b ∧ b ≤ n ∧ (∀ q, a ≤ q → q < b → Pl.mach l o q = Pl.mach l o a) ∧ KS p l n o w ob pb K wr
def KindP (p : Pl.Pol) (l : List Pl.Rf) (n : Nat) (o : List Nat) (w : World) (ob pb : Nat) (g : List Nat) (K : List Bool) (i : Value) (wr : World) : Prop := ∃ k : Nat, i = .int .i64 k ∧ k ≤ 4 ∧ KS p l n o w ob pb (marksN p l g K k) wr
def HeldP (p : Pl.Pol) (l : List Pl.Rf) (n : Nat) (o : List Nat) (w : World) (ob pb : Nat) (now : Int) (i : Value) (wr : World) : Prop := ∃ (j : Nat) (K : List Bool), i = .int .i64 j ∧ j ≤ n ∧ KS p l n o w ob pb K wr ∧ ∀ i, i < n → K.getD i false = (Pl.keptAny p l (l.getD i default) || (decide (i < j) && decide (now < (l.getD i default).til)))
theorem GrpR.next {p : Pl.Pol} {l : List Pl.Rf} {n : Nat} {o : List Nat} {w : World} {ob pb a b : Nat} {K : List Bool} {wr w2 : World} (h : GrpR p l n o w ob pb a K wr) (hO : Pl.Ord l o) (hl : l.length = n) (hab : a < b) (hb : b ≤ n) (hone : ∀ q, a ≤ q → q < b → Pl.mach l o q = Pl.mach l o a) (hstop : b = n ∨ Pl.mach l o b ≠ Pl.mach l o a)
    (hS : KS p l n o w ob pb (marksN p l (Pl.grp o a b) K 4) w2) : GrpR p l n o w ob pb b (marksN p l (Pl.grp o a b) K 4) w2 := by
  have hol := hO.len
  have hG : Pl.Grp l o a b := by
    refine ⟨hab, by omega, hone, ?_, by rw [hol, hl]; exact hstop⟩
    rcases h.beg with h | h | h
    · exact .inl h
    · omega
    · exact .inr h
  have hm := hG.marks hO p K (by rw [h.st.len, hl]) (by rw [hl]; exact h.val)
  refine ⟨hS, hb, by rw [marksN_4]; rw [hl] at hm; exact hm.2, ?_⟩
  rcases hstop with h1 | h1
  · exact .inr (.inl (by omega))
  · refine .inr (.inr fun e => h1 ?_)
    rw [← e]
    exact hone (b - 1) (by omega) (by omega)
theorem GrpR.all {p : Pl.Pol} {l : List Pl.Rf} {n : Nat} {o : List Nat} {w : World} {ob pb : Nat} {K : List Bool} {wr : World} (h : GrpR p l n o w ob pb n K wr) (hO : Pl.Ord l o) (hl : l.length = n) : ∀ i, i < n → K.getD i false = Pl.keptAny p l (l.getD i default) := by
  intro i hi
  rw [h.val i hi, List.take_of_length_le (by rw [hO.len, hl]; exact Nat.le_refl _), decide_eq_true (hO.all i (by omega)), Bool.true_and]
theorem held_all {p : Pl.Pol} {l : List Pl.Rf} {n : Nat} {K : List Bool} {now : Int} (hl : l.length = n) (hK : K.length = n) (hE : Pl.polE p = 0) (h : ∀ i, i < n → K.getD i false = (Pl.keptAny p l (l.getD i default) || (decide (i < n) && decide (now < (l.getD i default).til)))) : K = Pl.keepD p l now := by
  apply List.ext_getElem
  · rw [hK, Pl.keepD_len, hl]
  · intro i h1 h2
    have := h i (by omega)
    rw [List.getD_eq_getElem?_getD, List.getElem?_eq_getElem h1] at this
    have e2 : (Pl.keepD p l now)[i] = (decide (Pl.polE p ≠ 0) || Pl.keptAny p l (l[i]'(by omega)) || decide (now < (l[i]'(by omega)).til)) := List.getElem_map ..
    rw [e2, hE]
    have e : l.getD i default = l[i]'(by omega) := by rw [List.getD_eq_getElem?_getD, List.getElem?_eq_getElem (by omega)]; rfl
    rw [e, decide_eq_true (by omega), Bool.true_and] at this
    simpa using this
theorem held_next {p : Pl.Pol} {l : List Pl.Rf} {n j : Nat} {K : List Bool} {now : Int} (hj : j < n) (hK : K.length = n) (h : ∀ i, i < n → K.getD i false = (Pl.keptAny p l (l.getD i default) || (decide (i < j) && decide (now < (l.getD i default).til)))) :
    (now < (l.getD j default).til → ∀ i, i < n → (K.set j true).getD i false = (Pl.keptAny p l (l.getD i default) || (decide (i < j + 1) && decide (now < (l.getD i default).til)))) ∧
    (¬ now < (l.getD j default).til → ∀ i, i < n → K.getD i false = (Pl.keptAny p l (l.getD i default) || (decide (i < j + 1) && decide (now < (l.getD i default).til)))) := by
  have hd : ∀ i, i ≠ j → decide (i < j + 1) = decide (i < j) := by
    intro i hi
    rw [Bool.eq_iff_iff]; simp; omega
  constructor
  · intro ht i hi
    rw [Pl.set_getD _ _ _ _ (by omega)]
    by_cases hij : i = j
    · subst hij; rw [if_pos rfl, decide_eq_true ht, decide_eq_true (show i < i + 1 by omega)]; simp
    · rw [if_neg hij, h i hi, hd i hij]
  · intro ht i hi
    rw [h i hi]
    by_cases hij : i = j
    · subst hij; rw [decide_eq_false ht]; simp
    · rw [hd i hij]
theorem grp_len (o : List Nat) (a b : Nat) (hb : b ≤ o.length) : (Pl.grp o a b).length = b - a := by
  unfold Pl.grp; rw [List.length_take, List.length_drop]; omega
theorem grp_getD (o : List Nat) (a b q : Nat) (hq : q < b - a) : (Pl.grp o a b).getD q 0 = o.getD (a + q) 0 := by
  unfold Pl.grp
  rw [List.getD_eq_getElem?_getD, List.getD_eq_getElem?_getD, List.getElem?_take, if_pos hq, List.getElem?_drop]
theorem grp_lt {o : List Nat} {a b n : Nat} (h : ∀ j ∈ o, j < n) : ∀ i ∈ Pl.grp o a b, i < n := fun i hi => h i (Pl.grp_sub.subset hi)
/-- The order's places as they begin. -/
def IotaR (n : Nat) (ob B : Nat) (w : World) (i : Value) (wr : World) : Prop := ∃ j : Nat, j ≤ n ∧ i = .int .i64 j ∧ wr.heap[ob]? = some (.cells ((List.range j).map (fun q : Nat => Value.int .i64 (q : Int)) ++ List.replicate (n - j) (Value.int .i64 0)).toArray 3 (0, 0)) ∧ Below B w wr
theorem iota_set (n j : Nat) (h : j < n) : ((List.range j).map (fun q : Nat => Value.int .i64 (q : Int)) ++ List.replicate (n - j) (Value.int .i64 0)).toArray.setIfInBounds j (.int .i64 (j : Int)) = ((List.range (j + 1)).map (fun q : Nat => Value.int .i64 (q : Int)) ++ List.replicate (n - (j + 1)) (Value.int .i64 0)).toArray := by
  rw [List.setIfInBounds_toArray, List.set_append, if_neg (by simp)]
  simp only [List.length_map, List.length_range, Nat.sub_self]
  rw [show n - j = (n - (j + 1)) + 1 by omega, List.replicate_succ, List.set_cons_zero, List.range_succ, List.map_append]
  simp
theorem iota_get (n j : Nat) (h : j < n) : ((List.range j).map (fun q : Nat => Value.int .i64 (q : Int)) ++ List.replicate (n - j) (Value.int .i64 0)).toArray[j]? = some (.int .i64 0) := by
  rw [List.getElem?_toArray, List.getElem?_append_right (by simp)]
  simp [List.getElem?_replicate]; omega
end Go.Proofs.YtmncgnmgdkdhaaaGreatDoor
