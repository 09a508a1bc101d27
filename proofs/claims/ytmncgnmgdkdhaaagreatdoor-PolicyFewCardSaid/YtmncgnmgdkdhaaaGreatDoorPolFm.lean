/- A map of maps that a call makes: of each machine a set of pairs of numbers. -/
import Derived.Test.YtmncgnmgdkdhaaaGreatDoorPolBy
import Derived.Test.YtmncgnmgdkdhaaaGreatDoorPolFw
import Derived.Maps.OwnSet
import Derived.Maps.OwnOps
import Derived.Maps.RangeWalk
import Derived.WideKeyArr
namespace Go.Proofs.YtmncgnmgdkdhaaaGreatDoor
open Go.RowKit Go.Maps
set_option linter.unusedVariables false
set_option linter.unusedSimpArgs false
/-- Keys of two numbers. -/
theorem arr2 : WideMaps.ArrKey Tryz.prog 43 2 2 := ⟨Tryz.underlying43, by kernel_rfl, by kernel_rfl, by kernel_rfl⟩
theorem law_2 : Keyed Tryz.prog 43 := Keyed.of_law arr2.law
theorem law_str : Keyed Tryz.prog 9 := string_keyed Tryz.underlying9
def prV (q : Int × Int) : Value := .agg #[.int .i64 q.1, .int .i64 q.2]
def prK (q : Int × Int) : Lit := .string (keyBytes [.int .i64 q.1, .int .i64 q.2])
theorem wf64 {x : Int} (h : I64 x) : (Lit.int .i64 x).wf = true := WalkArith.wf_i64 (by unfold I64 at h; omega)
theorem types_succ : ∃ m, Tryz.prog.types.size = m + 1 := ⟨Tryz.prog.types.size - 1, by
  have h : (0 < Tryz.prog.types.size) := of_decide_eq_true (by kernel_rfl)
  omega⟩
set_option maxRecDepth 100000 in
theorem pr_key {q : Int × Int} (h1 : I64 q.1) (h2 : I64 q.2) : keyOf Tryz.prog 43 (prV q) = some (prK q) := by
  obtain ⟨m, hm⟩ := types_succ
  have hk : Tryz.prog.keyType 43 = true := arr2.keyType ⟨m, hm⟩
  have hc : Tryz.prog.cellsOf 43 = 2 := arr2.size
  have hc1 : Tryz.prog.cellsOf 2 = 1 := arr2.one
  have hf : (prV q).formed Tryz.prog 43 = true := by
    unfold prV Value.formed
    simp [Tryz.underlying43, hc, Value.oneCell']
  unfold keyOf
  rw [Tryz.underlying43]
  dsimp only
  rw [hk, hf, hm]
  unfold prV prK
  simp [Program.keyLits, Tryz.underlying43, Tryz.underlying2, hc, hc1, Value.cells, wf64 h1, wf64 h2, List.range_succ]
set_option maxRecDepth 100000 in
theorem pr_inj {q r : Int × Int} (h1 : I64 q.1) (h2 : I64 q.2) (h3 : I64 r.1) (h4 : I64 r.2) (h : prK q = prK r) : q = r := by
  have a := pr_key h1 h2
  have b := pr_key h3 h4
  rw [← h] at b
  have e := law_2.inj a b
  unfold prV at e
  injection e with e
  simp only [Array.mk.injEq, List.cons.injEq, Value.int.injEq, true_and, and_true] at e
  exact Prod.ext e.1 e.2
/-- Block b is a set of just these pairs, at most c updates old. -/
def SetP (w : World) (b : Nat) (Q : List (Int × Int)) (c : Nat) : Prop :=
  (∀ q ∈ Q, I64 q.1 ∧ I64 q.2) ∧ ∃ (D : DataW Unit), w.ownsMap Tryz.prog 43 (plainElem Tryz.prog 4) b c D ∧ IsMap D ∧ Tidy D ∧ size D = Q.length ∧ ∀ q : Int × Int, I64 q.1 → I64 q.2 → has D (prK q) = decide (q ∈ Q)
theorem SetP.made (w : World) : SetP (w.alloc (.map #[] 0)) w.heap.size [] 0 :=
  ⟨fun q h => (by cases h), .map [], World.ownsMap_made _ _ _ _, isMap_empty, tidy_empty, rfl, fun q _ _ => rfl⟩
theorem SetP.lt {w : World} {b c : Nat} {Q : List (Int × Int)} (h : SetP w b Q c) : b < w.heap.size := by obtain ⟨_, D, h1, _⟩ := h; exact h1.lt
theorem SetP.mono {w : World} {b c c' : Nat} {Q : List (Int × Int)} (h : SetP w b Q c) (hc : c ≤ c') : SetP w b Q c' := by
  obtain ⟨h0, D, h1, h2⟩ := h
  exact ⟨h0, D, h1.mono hc, h2⟩
theorem SetP.grown {w w' : World} {b c : Nat} {row : Option Nat} {Q : List (Int × Int)} (h : SetP w b Q c) (hg : w.grownBy w' row) (hne : some b ≠ row) : SetP w' b Q c := by
  obtain ⟨h0, D, h1, h2⟩ := h
  exact ⟨h0, D, h1.kept hg hne, h2⟩
theorem SetP.len {w : World} {b c : Nat} {Q : List (Int × Int)} (h : SetP w b Q c) (ty : TypeId) : (Builtin.len_ #[42] ty #[.map (some b)]).run Tryz.prog w = .ok (.int .i64 Q.length) w := by
  obtain ⟨h0, D, g1, g2, g3, g4, g5⟩ := h
  rw [g1.len Tryz.underlying42 ty, g4]
theorem SetP.put {w : World} {b c : Nat} {Q : List (Int × Int)} (h : SetP w b Q c) {q : Int × Int} (h1 : I64 q.1) (h2 : I64 q.2) (hn : c < 1000000000) :
    ∃ w', (Instr.mapUpdate 42 (.map (some b)) (prV q) (.bool true)).run Tryz.prog w = .ok () w' ∧ SetP w' b (if q ∈ Q then Q else q :: Q) (c + 1) ∧ w.grownBy w' (some b) := by
  obtain ⟨h0, D, g1, g2, g3, g4, g5⟩ := h
  obtain ⟨w', hrun, r1, r2⟩ := g1.update law_2 Tryz.underlying42 (by unfold maxLen; omega) (pr_key h1 h2) (plainElem_bool Tryz.underlying4 true)
  have hk := law_2.key (pr_key h1 h2)
  have hne : ∀ r : Int × Int, I64 r.1 → I64 r.2 → r ≠ q → prK r ≠ prK q := fun r h3 h4 hy e => hy (pr_inj h3 h4 h1 h2 e)
  refine ⟨w', hrun, ?_, r2⟩
  by_cases hq : q ∈ Q
  · rw [if_pos hq]
    refine ⟨h0, _, r1, g2.put _ _, g3.put hk _, ?_, fun r h3 h4 => ?_⟩
    · rw [size_put g3, g5 q h1 h2, decide_eq_true hq, g4]; rfl
    · by_cases hr : r = q
      · subst hr; rw [has_put_same g2 hk, decide_eq_true hq]
      · rw [has_put_other (hne r h3 h4 hr), g5 r h3 h4]
  · rw [if_neg hq]
    refine ⟨fun r hr => ?_, _, r1, g2.put _ _, g3.put hk _, ?_, fun r h3 h4 => ?_⟩
    · rcases List.mem_cons.1 hr with rfl | hr
      · exact ⟨h1, h2⟩
      · exact h0 r hr
    · rw [size_put g3, g5 q h1 h2, decide_eq_false hq, g4]; rfl
    · by_cases hr : r = q
      · subst hr; rw [has_put_same g2 hk]; simp
      · rw [has_put_other (hne r h3 h4 hr), g5 r h3 h4]; simp [hr]
/-- How the outer map's elements read: which block a machine's map is. -/
def RM (v : Value) : Option (DataW Unit × List MemPlace) := match v with | .map none => some (.nil, []) | .map (some b) => some (.lit (.int .u64 (b : Int)), []) | _ => none
theorem RM_inv {v : Value} {y : DataW Unit × List MemPlace} (h : RM v = some y) : ∃ c : Option Nat, v = .map c := by
  unfold RM at h
  split at h
  · exact ⟨none, rfl⟩
  · exact ⟨_, rfl⟩
  · cases h
theorem RM_nil {c : Option Nat} {ps : List MemPlace} (h : RM (.map c) = some (.nil, ps)) : c = none := by
  cases c with
  | none => rfl
  | some b => simp [RM] at h
theorem RM_some {c : Option Nat} {ps : List MemPlace} {b : Nat} (h : RM (.map c) = some (.lit (.int .u64 (b : Int)), ps)) : c = some b := by
  cases c with
  | none => simp [RM] at h
  | some b' =>
    have e : b' = b := by simp [RM] at h; have := h.1; omega
    rw [e]
theorem str_key {m : List UInt8} (hm : m.length ≤ 140737488355328) : keyOf Tryz.prog 9 (.string ⟨m.toArray⟩) = some (.string m) := by
  have := WideMaps.keyOf_string_mk (P := Tryz.prog) (k := 9) Tryz.underlying9 (s := ⟨m.toArray⟩) (by simp [ByteArray.size, maxLen]; omega)
  simpa using this
/-- Block M is a map of these machines, each with the block of its own map. -/
def MapO (w : World) (M : Nat) (ps : List (List UInt8 × Nat)) (c : Nat) : Prop :=
  ∃ (D : DataW Unit), w.ownsMap Tryz.prog 9 RM M c D ∧ IsMap D ∧ ∀ (m : List UInt8) zd, D.atKey (.string m) zd = match ps.lookup m with | some b => .lit (.int .u64 (b : Int)) | none => zd
theorem MapO.made (w : World) : MapO (w.alloc (.map #[] 0)) w.heap.size [] 0 := ⟨.map [], World.ownsMap_made _ _ _ _, isMap_empty, fun m zd => rfl⟩
theorem MapO.lt {w : World} {M c : Nat} {ps : List (List UInt8 × Nat)} (h : MapO w M ps c) : M < w.heap.size := by obtain ⟨D, h1, _⟩ := h; exact h1.lt
theorem MapO.mono {w : World} {M c c' : Nat} {ps : List (List UInt8 × Nat)} (h : MapO w M ps c) (hc : c ≤ c') : MapO w M ps c' := by
  obtain ⟨D, h1, h2⟩ := h
  exact ⟨D, h1.mono hc, h2⟩
theorem MapO.grown {w w' : World} {M c : Nat} {row : Option Nat} {ps : List (List UInt8 × Nat)} (h : MapO w M ps c) (hg : w.grownBy w' row) (hne : some M ≠ row) : MapO w' M ps c := by
  obtain ⟨D, h1, h2⟩ := h
  exact ⟨D, h1.kept hg hne, h2⟩
theorem MapO.look {w : World} {M c : Nat} {ps : List (List UInt8 × Nat)} (h : MapO w M ps c) {m : List UInt8} (hm : m.length ≤ 140737488355328) :
    (Instr.lookup 41 (.map (some M)) (.string ⟨m.toArray⟩) false).run Tryz.prog w = .ok (.map (ps.lookup m)) w := by
  obtain ⟨D, g1, g2, g3⟩ := h
  obtain ⟨v, qs, hrun, hv⟩ := g1.lookup law_str Tryz.underlying41 (z := .map none) (Tryz.zeroValue42 w) (zd := .nil) (zp := []) rfl (str_key hm)
  rw [hrun]
  obtain ⟨c', rfl⟩ := RM_inv hv
  rw [g3] at hv
  cases hl : ps.lookup m with
  | none => rw [hl] at hv; rw [RM_nil hv]
  | some b => rw [hl] at hv; rw [RM_some hv]
theorem MapO.add {w : World} {M c : Nat} {ps : List (List UInt8 × Nat)} (h : MapO w M ps c) {m : List UInt8} (hm : m.length ≤ 140737488355328) (b : Nat) (hn : c < 1000000000) :
    ∃ w', (Instr.mapUpdate 41 (.map (some M)) (.string ⟨m.toArray⟩) (.map (some b))).run Tryz.prog w = .ok () w' ∧ MapO w' M ((m, b) :: ps) (c + 1) ∧ w.grownBy w' (some M) := by
  obtain ⟨D, g1, g2, g3⟩ := h
  obtain ⟨w', hrun, r1, r2⟩ := g1.update law_str Tryz.underlying41 (by unfold maxLen; omega) (str_key hm) (val := .map (some b)) (d := .lit (.int .u64 (b : Int))) (ps := []) rfl
  have hk := law_str.key (str_key hm)
  refine ⟨w', hrun, ⟨_, r1, g2.put _ _, fun m' zd => ?_⟩, r2⟩
  by_cases hmm : m' = m
  · subst hmm; rw [atKey_put_same g2 hk]; simp
  · rw [atKey_put_other (by intro e; injection e with e; exact hmm e), g3, List.lookup_cons, beq_eq_false_iff_ne.2 hmm]
/-- The whole: a map of sets, each of whose pairs is as asked. -/
structure Few (w : World) (M : Nat) (ps : List (List UInt8 × Nat)) (c : Nat) (OK : List UInt8 → Int × Int → Prop) : Prop where
  out : MapO w M ps c
  inn : ∀ m b, ps.lookup m = some b → M < b ∧ b < w.heap.size ∧ ∃ Q, SetP w b Q c ∧ Q.Nodup ∧ ∀ q ∈ Q, OK m q
  inj : ∀ m m' b, ps.lookup m = some b → ps.lookup m' = some b → m = m'
theorem Few.made (w : World) (OK : List UInt8 → Int × Int → Prop) : Few (w.alloc (.map #[] 0)) w.heap.size [] 0 OK := ⟨MapO.made w, fun m b h => (by cases h), fun m m' b h => (by cases h)⟩
theorem Few.mono {w : World} {M c c' : Nat} {ps : List (List UInt8 × Nat)} {OK : List UInt8 → Int × Int → Prop} (h : Few w M ps c OK) (hc : c ≤ c') : Few w M ps c' OK :=
  ⟨h.out.mono hc, fun m b hl => by obtain ⟨h1, h2, Q, h3, h4⟩ := h.inn m b hl; exact ⟨h1, h2, Q, h3.mono hc, h4⟩, h.inj⟩
theorem Few.below {w w' : World} {M c : Nat} {ps : List (List UInt8 × Nat)} {OK : List UInt8 → Int × Int → Prop} (h : Few w M ps c OK) (hb : Below w.heap.size w w') : Few w' M ps c OK := by
  have hg : w.grownBy w' none := ⟨hb.os, hb.tape, hb.output, hb.size, fun k hk _ => hb.block k hk⟩
  exact ⟨h.out.grown hg (by simp), fun m b hl => by obtain ⟨h1, h2, Q, h3, h4⟩ := h.inn m b hl; exact ⟨h1, Nat.lt_of_lt_of_le h2 hb.size, Q, h3.grown hg (by simp), h4⟩, h.inj⟩
set_option maxRecDepth 100000 in
/-- A machine's map, made and put in. -/
theorem Few.add {w : World} {M c : Nat} {ps : List (List UInt8 × Nat)} {OK : List UInt8 → Int × Int → Prop} (h : Few w M ps c OK) {m : List UInt8} (hm : m.length ≤ 140737488355328) (hl : ps.lookup m = none) (hn : c < 1000000000) :
    ∃ w', (Instr.mapUpdate 41 (.map (some M)) (.string ⟨m.toArray⟩) (.map (some w.heap.size))).run Tryz.prog (w.alloc (.map #[] 0)) = .ok () w' ∧ Few w' M ((m, w.heap.size) :: ps) (c + 1) OK ∧ w.grownBy w' (some M) ∧ ((m, w.heap.size) :: ps).lookup m = some w.heap.size := by
  have ha := h.below ((Below.refl _ _).alloc (Nat.le_refl _) (.map #[] 0))
  obtain ⟨w', hrun, r1, r2⟩ := ha.out.add hm w.heap.size hn
  have hM := h.out.lt
  refine ⟨w', hrun, ⟨r1, fun m' b hl' => ?_, fun m1 m2 b h1 h2 => ?_⟩, (World.grownBy_alloc w _ (some M)).andThen r2 (fun j hj => .inr hj), by simp⟩
  · by_cases hmm : m' = m
    · subst hmm
      rw [List.lookup_cons_self] at hl'
      injection hl' with hl'
      subst hl'
      refine ⟨hM, by have := r2.size; simp at this; omega, [], ((SetP.made w).grown r2 (by simp; omega)).mono (by omega), List.nodup_nil, fun q hq => by cases hq⟩
    · rw [List.lookup_cons, beq_eq_false_iff_ne.2 hmm] at hl'
      obtain ⟨h1, h2, Q, h3, h4⟩ := ha.inn m' b hl'
      exact ⟨h1, Nat.lt_of_lt_of_le h2 r2.size, Q, (h3.grown r2 (by simp; omega)).mono (by omega), h4⟩
  · have key : ∀ m', m' ≠ m → ((m, w.heap.size) :: ps).lookup m' = some w.heap.size → False := fun m' hne hl' => by
      rw [List.lookup_cons, beq_eq_false_iff_ne.2 hne] at hl'
      have := (h.inn m' _ hl').2.1
      omega
    by_cases e1 : m1 = m
    · by_cases e2 : m2 = m
      · rw [e1, e2]
      · rw [e1, List.lookup_cons_self] at h1
        injection h1 with h1
        rw [← h1] at h2
        exact (key m2 e2 h2).elim
    · by_cases e2 : m2 = m
      · rw [e2, List.lookup_cons_self] at h2
        injection h2 with h2
        rw [← h2] at h1
        exact (key m1 e1 h1).elim
      · rw [List.lookup_cons, beq_eq_false_iff_ne.2 e1] at h1
        rw [List.lookup_cons, beq_eq_false_iff_ne.2 e2] at h2
        exact h.inj _ _ _ h1 h2
/-- A pair put into a machine's map. -/
theorem Few.put {w : World} {M c : Nat} {ps : List (List UInt8 × Nat)} {OK : List UInt8 → Int × Int → Prop} (h : Few w M ps c OK) {m : List UInt8} {b : Nat} (hl : ps.lookup m = some b) {q : Int × Int} (h1 : I64 q.1) (h2 : I64 q.2) (hq : OK m q) (hn : c < 1000000000) :
    ∃ w', (Instr.mapUpdate 42 (.map (some b)) (prV q) (.bool true)).run Tryz.prog w = .ok () w' ∧ Few w' M ps (c + 1) OK ∧ w.grownBy w' (some b) := by
  obtain ⟨g1, g2, Q, g3, g4, g5⟩ := h.inn m b hl
  obtain ⟨w', hrun, r1, r2⟩ := g3.put h1 h2 hn
  refine ⟨w', hrun, ⟨(h.out.grown r2 (by simp; omega)).mono (by omega), fun m' b' hl' => ?_, h.inj⟩, r2⟩
  by_cases hbb : b' = b
  · subst hbb
    obtain rfl := h.inj _ _ _ hl' hl
    refine ⟨g1, Nat.lt_of_lt_of_le g2 r2.size, _, r1, ?_, ?_⟩
    · split
      · exact g4
      · next hnm => exact List.nodup_cons.2 ⟨hnm, g4⟩
    · intro r hr
      split at hr
      · exact g5 r hr
      · rcases List.mem_cons.1 hr with rfl | hr
        · exact hq
        · exact g5 r hr
  · obtain ⟨k1, k2, Q', k3, k4⟩ := h.inn m' b' hl'
    exact ⟨k1, Nat.lt_of_lt_of_le k2 r2.size, Q', (k3.grown r2 (by simpa using hbb)).mono (by omega), k4⟩
end Go.Proofs.YtmncgnmgdkdhaaaGreatDoor
