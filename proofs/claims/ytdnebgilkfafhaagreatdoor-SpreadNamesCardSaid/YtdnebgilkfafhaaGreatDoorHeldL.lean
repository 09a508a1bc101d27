/- A call that returns its value and leaves the world as it was, wherever the condition S holds, may be taken first in a region that draws its order: the library's wpAnyH_take has this for what yields without a call. A region that draws its order and ends with a store into a cell that it loads (x.f = append(x.f, ..)): a condition S on the world that is kept by all operations but the last, L, which waits for all others. -/
import Derived.Test.YtdnebgilkfafhaaGreatDoorBase
import Derived.Deep.RegionHeld3
namespace Go.Proofs.YtdnebgilkfafhaaGreatDoor

section
variable {P : Program} {ops : Array Oper} {Q : Exit → Act → World → Prop} {md : Region.Mode} {S : World → Prop}

/-- In state a the operation is a call which, in every world that meets S, returns v and changes nothing. -/
def StillCall (P : Program) (ops : Array Oper) (S : World → Prop) (o : Oper) (v : Value) (a : Act) : Prop :=
  Region.wanted o (yielded ops a.tmps) = true ∧ ∃ f args, ∀ w, S w → (execOp a.eval o).run P w = .ok (.enter f args) w ∧ Calls P f args w fun e w' => e = .returned v ∧ w = w'

theorem StillCall.wpOp {i : Nat} {o : Oper} {v : Value} {a : Act} (hi : ops[i]? = some o) (hy : StillCall P ops S o v a) {K : Act → World → Prop} {w : World} (hS : S w) (h : K (a.put o.dst v) w) : wpOp P ops Q i K a w := by
  obtain ⟨hw, f, args, hf⟩ := hy
  unfold Go.wpOp
  simp only [hi]
  rw [if_pos hw]
  refine .inl ?_
  unfold Oper.wp
  rw [(hf w hS).1]
  refine Calls.mono (hf w hS).2 ?_
  rintro e w' ⟨rfl, rfl⟩
  exact h

/-- Whatever is kept by a put at another place, and by a defer, is kept by an operation that is apart. -/
theorem put_past {j : Nat} {oi oj : Oper} {v : Value} (Y : Act → Prop) (hj : ops[j]? = some oj) (hap : oi.apart ops oj = true) (hsj : ∀ cs b, oj.op ≠ .select cs b)
    (hYp : ∀ a u, Y a → Y (a.put oj.dst u)) (hYd : ∀ a d, Y a → Y { a with defers := d :: a.defers })
    (hQ : ∀ c a w, Q (.panic c) (a.put oi.dst v) w → Q (.panic c) a w) {K : Act → World → Prop} {a : Act} {w : World} (hy : Y a) (h : Go.wpOp P ops Q j K (a.put oi.dst v) w) :
    Go.wpOp P ops Q j (fun a' w' => Y a' ∧ K (a'.put oi.dst v) w') a w := by
  obtain ⟨p1, p2, p3⟩ := Oper.apart_spec hap
  have swap : ∀ (b : Act) u, (b.put oi.dst v).put oj.dst u = (b.put oj.dst u).put oi.dst v := fun b u => Act.put_comm b v u p2
  unfold Go.wpOp at h ⊢
  simp only [hj] at h ⊢
  rw [wanted_put oj a oi.dst v p1] at h
  by_cases hwt : Region.wanted oj (yielded ops a.tmps) = true
  · rw [if_pos hwt] at h ⊢
    rcases h with h | ⟨has, hl⟩
    · refine .inl ?_
      unfold Oper.wp at h ⊢
      rw [execOp_put oj hsj a oi.dst v p1] at h
      revert h
      cases (execOp a.eval oj).run P w with
      | ok n w' =>
        cases n <;> simp only [Oper.upon] <;> intro h <;> try exact False.elim h
        case value u => exact ⟨hYp a u hy, swap a u ▸ h⟩
        case skip => exact ⟨hYp a _ hy, swap a _ ▸ h⟩
        case defer d =>
          refine ⟨hYp _ _ (hYd a d hy), ?_⟩
          rw [← swap, ← Act.put_defers]
          exact h
        case enter f args =>
          refine Calls.mono h fun e w'' he => ?_
          cases e with
          | returned u => exact ⟨hYp a u hy, swap a u ▸ he⟩
          | panicked c => exact hQ _ _ _ he
          | outgrown => exact he
        case row row args => exact Rows.mono h fun u w'' he => ⟨hYp a u hy, swap a u ▸ he⟩
      | halt x w' =>
        cases x <;> simp only [Oper.upon] <;> intro h <;> try exact False.elim h
        case panic u => exact hQ _ _ _ h
    · refine .inr ⟨?_, hl⟩
      unfold Oper.asks at has ⊢
      rwa [execOp_put oj hsj a oi.dst v p1] at has
  · rw [if_neg hwt] at h ⊢
    exact ⟨hYp a _ hy, swap a _ ▸ h⟩

/-- A still call may be taken first. -/
theorem still_take {i : Nat} {oi : Oper} {v : Value} (hi : ops[i]? = some oi) (hs : Region.noSelect ops = true) (hQ : ∀ c a w, Q (.panic c) (a.put oi.dst v) w → Q (.panic c) a w) :
    ∀ (fuel : Nat) (listed : Array Bool) (a : Act) (w : World), Region.free md ops listed i = true → (Region.ready md ops listed).contains i = true → StillCall P ops S oi v a → S w →
      wpAnyH P md ops Q S fuel (listed.setIfInBounds i true) (a.put oi.dst v) w → wpAnyH P md ops Q S (fuel + 1) listed a w := by
  have hsel := Region.noSelect_spec hs
  have key : ∀ (fuel : Nat) (listed : Array Bool) (a : Act) (w : World),
      (∀ j oj, ops[j]? = some oj → j ≠ i → listed.getD j true = false → (∀ e ∈ oj.after, Region.binds md e = true → e.on ≠ i) → oi.apart ops oj = true) →
      i ∈ Region.ready md ops listed → StillCall P ops S oi v a → S w → wpAnyH P md ops Q S fuel (listed.setIfInBounds i true) (a.put oi.dst v) w → wpAnyH P md ops Q S (fuel + 1) listed a w := by
    intro fuel
    induction fuel with
    | zero =>
      intro listed a w _ hr hy hS H
      refine ⟨fun h => absurd (h ▸ hr) (by simp), fun j hj => ?_⟩
      by_cases hji : j = i
      · subst hji; exact hy.wpOp hi hS ⟨hS, H⟩
      · have h2 := ready_mono hj hji
        rw [H.1] at h2
        exact absurd h2 (by simp)
    | succ fuel ih =>
      intro listed a w hfree hr hy hS H
      refine ⟨fun h => absurd (h ▸ hr) (by simp), fun j hj => ?_⟩
      by_cases hji : j = i
      · subst hji; exact hy.wpOp hi hS ⟨hS, H⟩
      · have h1 := H.2 j (ready_mono hj hji)
        obtain ⟨hjun, oj, hoj, hall⟩ := mem_ready.1 hj
        have hnot : ∀ e ∈ oj.after, Region.binds md e = true → e.on ≠ i := by
          intro e he hb heq
          have g1 := hall e he hb
          have g0 := (mem_ready.1 hr).1
          rw [heq] at g1
          rcases Nat.lt_or_ge i listed.size with h' | h'
          · simp [h'] at g0 g1; rw [g0] at g1; cases g1
          · simp [Array.getElem?_eq_none h'] at g1
        have hap := hfree j oj hoj hji hjun hnot
        obtain ⟨p1, p2, p3⟩ := Oper.apart_spec hap
        have h2 := put_past (StillCall P ops S oi v) hoj hap (fun cs b => hsel j oj cs b hoj)
          (fun b u hb => by
            unfold StillCall at hb ⊢
            rw [execOp_put oi (fun cs b => hsel i oi cs b hi) b oj.dst u p3, wanted_put oi b oj.dst u p3]
            exact hb)
          (fun b d hb => hb) hQ hy h1
        have hfree' : ∀ k ok, ops[k]? = some ok → k ≠ i → (listed.setIfInBounds j true).getD k true = false →
            (∀ e ∈ ok.after, Region.binds md e = true → e.on ≠ i) → oi.apart ops ok = true := by
          intro k ok hk hki hun hno
          refine hfree k ok hk hki ?_ hno
          by_cases hjk : j = k
          · subst hjk; exact hjun
          · rw [getD_set_ne true hjk] at hun; exact hun
        refine wpOp_mono (fun a' w' h3 => ⟨h3.2.1, ih (listed.setIfInBounds j true) a' w' hfree' (ready_mono hr (Ne.symm hji)) h3.1 h3.2.1 ?_⟩) h2
        rw [Array.setIfInBounds_comm _ _ hji]
        exact h3.2.2
  intro fuel listed a w hf hr
  exact key fuel listed a w (fun j oj hj hne hun hno => Region.free_spec hi hf j oj hj hne hun hno) (by simpa using hr)
end
end Go.Proofs.YtdnebgilkfafhaaGreatDoor
namespace Go.Proofs.YtdnebgilkfafhaaGreatDoor

section
variable {P : Program} {ops : Array Oper} {Q : Exit → Act → World → Prop} {md : Region.Mode} {S : World → Prop} {L : Nat}

/-- Whatever order is picked; S holds behind each operation that is not the last. -/
def wpAnyL (P : Program) (md : Region.Mode) (ops : Array Oper) (Q : Exit → Act → World → Prop) (S : World → Prop) (L : Nat) : Nat → Array Bool → Act → World → Prop
  | 0, listed, a, w => Region.ready md ops listed = [] ∧ Q .normal a w
  | fuel + 1, listed, a, w => (Region.ready md ops listed = [] → Q .normal a w) ∧
    ∀ i ∈ Region.ready md ops listed, wpOp P ops Q i (fun a' w' => (i ≠ L → S w') ∧ wpAnyL P md ops Q S L fuel (listed.setIfInBounds i true) a' w') a w
theorem wpAny_ofL : ∀ (fuel : Nat) (listed : Array Bool) (a : Act) (w : World), wpAnyL P md ops Q S L fuel listed a w → wpAny P md ops Q fuel listed a w
  | 0, _, _, _, h => h
  | fuel + 1, _, _, _, h => ⟨h.1, fun i hi => wpOp_mono (fun a' w' h' => wpAny_ofL fuel _ a' w' h'.2) (h.2 i hi)⟩
/-- The operations that have come up: with each, all it waits for. -/
def Closed (md : Region.Mode) (ops : Array Oper) (listed : Array Bool) : Prop := ∀ j o, listed.getD j false = true → ops[j]? = some o → ∀ e ∈ o.after, Region.binds md e = true → listed.getD e.on false = true
def closedB (md : Region.Mode) (ops : Array Oper) (listed : Array Bool) : Bool := (List.range ops.size).all fun j => match ops[j]? with
  | some o => !listed.getD j false || o.after.all fun e => !Region.binds md e || listed.getD e.on false
  | none => true
theorem closed_ofB {listed : Array Bool} (h : closedB md ops listed = true) : Closed md ops listed := fun j o hj ho e he hb => by
  have hlt : j < ops.size := by
    rcases Nat.lt_or_ge j ops.size with h' | h'
    · exact h'
    · rw [Array.getElem?_eq_none h'] at ho; cases ho
  unfold closedB at h
  rw [List.all_eq_true] at h
  have h1 := h j (List.mem_range.2 hlt)
  rw [ho] at h1
  simp only [hj, Bool.not_true, Bool.false_or, Array.all_eq_true'] at h1
  have h2 := h1 e he
  simpa [hb] using h2
theorem getD_set_mono {listed : Array Bool} {j k : Nat} (h : listed.getD k false = true) : (listed.setIfInBounds j true).getD k false = true := by
  by_cases hjk : j = k
  · subst hjk
    rcases Nat.lt_or_ge j listed.size with h' | h'
    · simp [h']
    · simp [Array.getElem?_eq_none h'] at h
  · rw [getD_set_ne false hjk]; exact h
theorem Closed.set {listed : Array Bool} (h : Closed md ops listed) {j : Nat} (hj : j ∈ Region.ready md ops listed) : Closed md ops (listed.setIfInBounds j true) := fun k o hk ho e he hb => by
  obtain ⟨hjun, oj, hoj, hall⟩ := mem_ready.1 hj
  by_cases hjk : j = k
  · subst hjk
    rw [hoj] at ho
    cases ho
    exact getD_set_mono (hall e he hb)
  · rw [getD_set_ne false hjk] at hk
    exact getD_set_mono (h k o hk ho e he hb)
/-- The operation j waits for number i, by one edge or more. -/
def waitsN (md : Region.Mode) (ops : Array Oper) : Nat → Nat → Nat → Bool
  | 0, _, _ => false
  | n + 1, j, i => match ops[j]? with
    | some o => o.after.any fun e => Region.binds md e && (e.on == i || waitsN md ops n e.on i)
    | none => false
theorem waitsN_listed {listed : Array Bool} (hc : Closed md ops listed) (i : Nat) : ∀ (n j : Nat) (o : Oper), ops[j]? = some o → (∀ e ∈ o.after, Region.binds md e = true → listed.getD e.on false = true) → waitsN md ops n j i = true → listed.getD i false = true
  | 0, _, _, _, _, h => by cases h
  | n + 1, j, o, ho, hall, h => by
    unfold waitsN at h
    rw [ho] at h
    simp only [Array.any_eq_true'] at h
    obtain ⟨e, he, hb⟩ := h
    simp only [Bool.and_eq_true, Bool.or_eq_true, beq_iff_eq] at hb
    have h1 := hall e he hb.1
    rcases hb.2 with h2 | h2
    · rw [← h2]; exact h1
    · cases hoe : ops[e.on]? with
      | none =>
        exfalso
        cases n with
        | zero => cases h2
        | succ n => unfold waitsN at h2; rw [hoe] at h2; cases h2
      | some o2 => exact waitsN_listed hc i n e.on o2 hoe (hc e.on o2 h1 hoe) h2
/-- The last operation waits for number i. -/
def waitsL (md : Region.Mode) (ops : Array Oper) (L i : Nat) : Bool := waitsN md ops ops.size L i
theorem waitsL_not {i : Nat} (h : waitsL md ops L i = true) {listed : Array Bool} (hc : Closed md ops listed) (hr : i ∈ Region.ready md ops listed) : L ∉ Region.ready md ops listed := fun hL => by
  obtain ⟨hjun, oj, hoj, hall⟩ := mem_ready.1 hL
  have g1 := waitsN_listed hc i _ _ _ hoj hall h
  have g0 := (mem_ready.1 hr).1
  rcases Nat.lt_or_ge i listed.size with h' | h'
  · simp [h'] at g0 g1; rw [g0] at g1; cases g1
  · simp [Array.getElem?_eq_none h'] at g1
/-- What is kept by all operations that are apart may be taken first: a load, or a still call. -/
theorem firstL {i : Nat} {oi : Oper} {v : Value} (Y : Act → Prop) (hi : ops[i]? = some oi) (hs : Region.noSelect ops = true) (hQ : ∀ c a w, Q (.panic c) (a.put oi.dst v) w → Q (.panic c) a w)
    (hY : ∀ (a : Act) (w : World) (K : Act → World → Prop), Y a → S w → K (a.put oi.dst v) w → wpOp P ops Q i K a w)
    (hYp : ∀ (oj : Oper), oi.apart ops oj = true → ∀ a u, Y a → Y (a.put oj.dst u)) (hYd : ∀ a d, Y a → Y { a with defers := d :: a.defers })
    (hL : waitsL md ops L i = true) (hne : i ≠ L) :
    ∀ (fuel : Nat) (listed : Array Bool) (a : Act) (w : World), Closed md ops listed → Region.free md ops listed i = true → (Region.ready md ops listed).contains i = true → Y a → S w →
      wpAnyL P md ops Q S L fuel (listed.setIfInBounds i true) (a.put oi.dst v) w → wpAnyL P md ops Q S L (fuel + 1) listed a w := by
  have hsel := Region.noSelect_spec hs
  have key : ∀ (fuel : Nat) (listed : Array Bool) (a : Act) (w : World),
      (∀ j oj, ops[j]? = some oj → j ≠ i → listed.getD j true = false → (∀ e ∈ oj.after, Region.binds md e = true → e.on ≠ i) → oi.apart ops oj = true) →
      Closed md ops listed → i ∈ Region.ready md ops listed → Y a → S w → wpAnyL P md ops Q S L fuel (listed.setIfInBounds i true) (a.put oi.dst v) w → wpAnyL P md ops Q S L (fuel + 1) listed a w := by
    intro fuel
    induction fuel with
    | zero =>
      intro listed a w _ _ hr hy hS H
      refine ⟨fun h => absurd (h ▸ hr) (by simp), fun j hj => ?_⟩
      by_cases hji : j = i
      · subst hji; exact hY a w _ hy hS ⟨fun _ => hS, H⟩
      · have h2 := ready_mono hj hji
        rw [H.1] at h2
        exact absurd h2 (by simp)
    | succ fuel ih =>
      intro listed a w hfree hcl hr hy hS H
      refine ⟨fun h => absurd (h ▸ hr) (by simp), fun j hj => ?_⟩
      by_cases hji : j = i
      · subst hji; exact hY a w _ hy hS ⟨fun _ => hS, H⟩
      · have hjL : j ≠ L := fun e => waitsL_not hL hcl hr (e ▸ hj)
        have h1 := H.2 j (ready_mono hj hji)
        obtain ⟨hjun, oj, hoj, hall⟩ := mem_ready.1 hj
        have hnot : ∀ e ∈ oj.after, Region.binds md e = true → e.on ≠ i := by
          intro e he hb heq
          have g1 := hall e he hb
          have g0 := (mem_ready.1 hr).1
          rw [heq] at g1
          rcases Nat.lt_or_ge i listed.size with h' | h'
          · simp [h'] at g0 g1; rw [g0] at g1; cases g1
          · simp [Array.getElem?_eq_none h'] at g1
        have hap := hfree j oj hoj hji hjun hnot
        have h2 := put_past Y hoj hap (fun cs b => hsel j oj cs b hoj) (fun b u hb => hYp oj hap b u hb) hYd hQ hy h1
        have hfree' : ∀ k ok, ops[k]? = some ok → k ≠ i → (listed.setIfInBounds j true).getD k true = false →
            (∀ e ∈ ok.after, Region.binds md e = true → e.on ≠ i) → oi.apart ops ok = true := by
          intro k ok hk hki hun hno
          refine hfree k ok hk hki ?_ hno
          by_cases hjk : j = k
          · subst hjk; exact hjun
          · rw [getD_set_ne true hjk] at hun; exact hun
        refine wpOp_mono (fun a' w' h3 => ⟨h3.2.1, ih (listed.setIfInBounds j true) a' w' hfree' (hcl.set hj) (ready_mono hr (Ne.symm hji)) h3.1 (h3.2.1 hjL) ?_⟩) h2
        rw [Array.setIfInBounds_comm _ _ hji]
        exact h3.2.2
  intro fuel listed a w hcl hf hr
  exact key fuel listed a w (fun j oj hj hne hun hno => Region.free_spec hi hf j oj hj hne hun hno) hcl (by simpa using hr)
theorem takeL {i : Nat} {oi : Oper} {v : Value} {fuel : Nat} {listed : Array Bool} {a : Act} {w : World} (hi : ops[i]? = some oi)
    (hs : Region.noSelect ops = true) (hf : Region.free md ops listed i = true) (hr : (Region.ready md ops listed).contains i = true) (hL : waitsL md ops L i = true) (hc : closedB md ops listed = true) (hne : i ≠ L)
    (hQ : ∀ c a w, Q (.panic c) (a.put oi.dst v) w → Q (.panic c) a w) (hy : YieldsIf P ops S oi v a) (hS : S w)
    (h : wpAnyL P md ops Q S L fuel (listed.setIfInBounds i true) (a.put oi.dst v) w) : wpAnyL P md ops Q S L (fuel + 1) listed a w := by
  have hsel := Region.noSelect_spec hs
  refine firstL (YieldsIf P ops S oi v) hi hs hQ (fun a w K hy hS hK => hy.wpOp hi hS hK) (fun oj hap a u hy => ?_) (fun a d hy => hy.of_same rfl rfl) hL hne fuel listed a w (closed_ofB hc) hf hr hy hS h
  obtain ⟨p1, p2, p3⟩ := Oper.apart_spec hap
  exact hy.of_same (execOp_put oi (fun cs b => hsel i oi cs b hi) a oj.dst u p3) (wanted_put oi a oj.dst u p3)
theorem tkL (i : Nat) {oi : Oper} {v : Value} {fuel : Nat} {listed : Array Bool} {a : Act} {w : World} (hi : ops[i]? = some oi) (hy : ∀ w, S w → (execOp a.eval oi).run P w = .ok (.value v) w) (hS : S w) (h : wpAnyL P md ops Q S L fuel (listed.setIfInBounds i true) (a.put oi.dst v) w)
    (hs : Region.noSelect ops = true := by kernel_rfl) (hf : Region.free md ops listed i = true := by kernel_rfl) (hr : (Region.ready md ops listed).contains i = true := by kernel_rfl) (hL : waitsL md ops L i = true := by kernel_rfl) (hc : closedB md ops listed = true := by kernel_rfl) (hne : i ≠ L := by decide) (hw : Region.wanted oi (yielded ops a.tmps) = true := by kernel_rfl) (hQ : ∀ c a w, Q (.panic c) (a.put oi.dst v) w → Q (.panic c) a w := by exact fun _ _ _ h => h) : wpAnyL P md ops Q S L (fuel + 1) listed a w :=
  takeL hi hs hf hr hL hc hne hQ (Or.inl ⟨hw, hy⟩) hS h
theorem stillL {i : Nat} {oi : Oper} {v : Value} {fuel : Nat} {listed : Array Bool} {a : Act} {w : World} (hi : ops[i]? = some oi)
    (hs : Region.noSelect ops = true) (hf : Region.free md ops listed i = true) (hr : (Region.ready md ops listed).contains i = true) (hL : waitsL md ops L i = true) (hc : closedB md ops listed = true) (hne : i ≠ L)
    (hQ : ∀ c a w, Q (.panic c) (a.put oi.dst v) w → Q (.panic c) a w) (hy : StillCall P ops S oi v a) (hS : S w)
    (h : wpAnyL P md ops Q S L fuel (listed.setIfInBounds i true) (a.put oi.dst v) w) : wpAnyL P md ops Q S L (fuel + 1) listed a w := by
  have hsel := Region.noSelect_spec hs
  refine firstL (StillCall P ops S oi v) hi hs hQ (fun a w K hy hS hK => hy.wpOp hi hS hK) (fun oj hap a u hy => ?_) (fun a d hy => hy) hL hne fuel listed a w (closed_ofB hc) hf hr hy hS h
  obtain ⟨p1, p2, p3⟩ := Oper.apart_spec hap
  unfold StillCall at hy ⊢
  rw [execOp_put oi (fun cs b => hsel i oi cs b hi) a oj.dst u p3, wanted_put oi a oj.dst u p3]
  exact hy
/-- Each of the operations rs comes up next. -/
def ReadyL (P : Program) (md : Region.Mode) (ops : Array Oper) (Q : Exit → Act → World → Prop) (S : World → Prop) (L fuel : Nat) (listed : Array Bool) (a : Act) (w : World) (rs : List Nat) : Prop :=
  ∀ i ∈ rs, wpOp P ops Q i (fun a' w' => (i ≠ L → S w') ∧ wpAnyL P md ops Q S L fuel (listed.setIfInBounds i true) a' w') a w
theorem ReadyL.nil {fuel : Nat} {listed : Array Bool} {a : Act} {w : World} : ReadyL P md ops Q S L fuel listed a w [] := fun _ h => by cases h
theorem ReadyL.cons {fuel : Nat} {listed : Array Bool} {a : Act} {w : World} {i : Nat} {o : Oper} {rs : List Nat} (ho : ops[i]? = some o) (hne : i ≠ L)
    (h : ∀ K' : Act → World → Prop, Shut (∀ a w, S w → (S w → wpAnyL P md ops Q S L fuel (listed.setIfInBounds i true) a w) → K' a w) → if Region.wanted o (yielded ops a.tmps) = true then Oper.wp P o a w K' Q else K' (a.put o.dst undef) w)
    (hs : ReadyL P md ops Q S L fuel listed a w rs) : ReadyL P md ops Q S L fuel listed a w (i :: rs) := fun j hj => by
  rcases List.mem_cons.1 hj with rfl | hj
  · exact wpOp_step ho (fun K' hK => h K' (fun a w hS hW => hK a w ⟨fun _ => hS, hW hS⟩))
  · exact hs j hj
theorem ReadyL.last {fuel : Nat} {listed : Array Bool} {a : Act} {w : World} {o : Oper} (ho : ops[L]? = some o)
    (h : ∀ K' : Act → World → Prop, Shut (∀ a w, wpAnyL P md ops Q S L fuel (listed.setIfInBounds L true) a w → K' a w) → if Region.wanted o (yielded ops a.tmps) = true then Oper.wp P o a w K' Q else K' (a.put o.dst undef) w) :
    ReadyL P md ops Q S L fuel listed a w [L] := fun j hj => by
  obtain rfl : j = L := by simpa using hj
  exact wpOp_step ho (fun K' hK => h K' (fun a w hW => hK a w ⟨fun hn => absurd rfl hn, hW⟩))
theorem readyL {rs : List Nat} {fuel : Nat} {listed : Array Bool} {a : Act} {w : World} (hr : Region.ready md ops listed = rs) (hne : rs ≠ [])
    (h : ReadyL P md ops Q S L fuel listed a w rs) : wpAnyL P md ops Q S L (fuel + 1) listed a w := ⟨fun h0 => absurd (hr ▸ h0) hne, hr ▸ h⟩
theorem doneL {listed : Array Bool} {a : Act} {w : World} (hr : Region.ready md ops listed = []) (h : Q .normal a w) : ∀ fuel, wpAnyL P md ops Q S L fuel listed a w
  | 0 => ⟨hr, h⟩
  | _ + 1 => ⟨fun _ => h, by rw [hr]; simp⟩
theorem wp_regionL {id : Nat} {a : Act} {w : World} (L : Nat) (S : World → Prop) (hm : P.follows .mixedOrders = true) (hS : S w.drew)
    (h : S w.drew → wpAnyL P .any ops Q S L ops.size (Array.replicate ops.size false) a w.drew) : (Code.region id ops true).wp P Q a w :=
  wp_region_any hm (wpAny_ofL _ _ _ _ (h hS))
end
end Go.Proofs.YtdnebgilkfafhaaGreatDoor
