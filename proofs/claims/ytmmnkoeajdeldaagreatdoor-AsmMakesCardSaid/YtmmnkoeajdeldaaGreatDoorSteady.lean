/- A call that returns its value and leaves the world as it was, wherever the condition S holds, may be taken first in a region that draws its order: the library's wpAnyH_take has this for what yields without a call. -/
import Derived.Test.YtmmnkoeajdeldaaGreatDoorBase
import Derived.Deep.RegionHeld3
namespace Go.Proofs.YtmmnkoeajdeldaaGreatDoor

section
variable {P : Program} {ops : Array Oper} {Q : Exit → Act → World → Prop} {md : Region.Mode} {S : World → Prop}

/-- In state a the operation is a call which, in every world that meets S, returns v and changes nothing. -/
def StillCall (P : Program) (ops : Array Oper) (S : World → Prop) (o : Oper) (v : Value) (a : Act) : Prop :=
  Region.wanted o (yielded ops a.tmps) = true ∧ ∃ f args, ∀ w, S w → (execOp a.eval o).run P w = .ok (.enter f args) w ∧ Calls P f args w fun e w' => e = .returned v ∧ w = w'

theorem StillCall.wpOp {i : Nat} {o : Oper} {v : Value} {a : Act} (hi : ops[i]? = some o) (hy : StillCall P ops S o v a) {K : Act → World → Prop} {w : World} (hS : S w) (h : K (a.put o.dst v) w) : wpOp P ops Q i K a w := by
  obtain ⟨hw, f, args, hf⟩ := hy
  unfold Go.wpOp
  simp only [hi]
  rw [if_pos hw]
  refine .inl ?_
  unfold Oper.wp
  rw [(hf w hS).1]
  refine Calls.mono (hf w hS).2 ?_
  rintro e w' ⟨rfl, rfl⟩
  exact h

/-- Whatever is kept by a put at another place, and by a defer, is kept by an operation that is apart. -/
theorem put_past {j : Nat} {oi oj : Oper} {v : Value} (Y : Act → Prop) (hj : ops[j]? = some oj) (hap : oi.apart ops oj = true) (hsj : ∀ cs b, oj.op ≠ .select cs b)
    (hYp : ∀ a u, Y a → Y (a.put oj.dst u)) (hYd : ∀ a d, Y a → Y { a with defers := d :: a.defers })
    (hQ : ∀ c a w, Q (.panic c) (a.put oi.dst v) w → Q (.panic c) a w) {K : Act → World → Prop} {a : Act} {w : World} (hy : Y a) (h : Go.wpOp P ops Q j K (a.put oi.dst v) w) :
    Go.wpOp P ops Q j (fun a' w' => Y a' ∧ K (a'.put oi.dst v) w') a w := by
  obtain ⟨p1, p2, p3⟩ := Oper.apart_spec hap
  have swap : ∀ (b : Act) u, (b.put oi.dst v).put oj.dst u = (b.put oj.dst u).put oi.dst v := fun b u => Act.put_comm b v u p2
  unfold Go.wpOp at h ⊢
  simp only [hj] at h ⊢
  rw [wanted_put oj a oi.dst v p1] at h
  by_cases hwt : Region.wanted oj (yielded ops a.tmps) = true
  · rw [if_pos hwt] at h ⊢
    rcases h with h | ⟨has, hl⟩
    · refine .inl ?_
      unfold Oper.wp at h ⊢
      rw [execOp_put oj hsj a oi.dst v p1] at h
      revert h
      cases (execOp a.eval oj).run P w with
      | ok n w' =>
        cases n <;> simp only [Oper.upon] <;> intro h <;> try exact False.elim h
        case value u => exact ⟨hYp a u hy, swap a u ▸ h⟩
        case skip => exact ⟨hYp a _ hy, swap a _ ▸ h⟩
        case defer d =>
          refine ⟨hYp _ _ (hYd a d hy), ?_⟩
          rw [← swap, ← Act.put_defers]
          exact h
        case enter f args =>
          refine Calls.mono h fun e w'' he => ?_
          cases e with
          | returned u => exact ⟨hYp a u hy, swap a u ▸ he⟩
          | panicked c => exact hQ _ _ _ he
          | outgrown => exact he
        case row row args => exact Rows.mono h fun u w'' he => ⟨hYp a u hy, swap a u ▸ he⟩
      | halt x w' =>
        cases x <;> simp only [Oper.upon] <;> intro h <;> try exact False.elim h
        case panic u => exact hQ _ _ _ h
    · refine .inr ⟨?_, hl⟩
      unfold Oper.asks at has ⊢
      rwa [execOp_put oj hsj a oi.dst v p1] at has
  · rw [if_neg hwt] at h ⊢
    exact ⟨hYp a _ hy, swap a _ ▸ h⟩

/-- A still call may be taken first. -/
theorem still_take {i : Nat} {oi : Oper} {v : Value} (hi : ops[i]? = some oi) (hs : Region.noSelect ops = true) (hQ : ∀ c a w, Q (.panic c) (a.put oi.dst v) w → Q (.panic c) a w) :
    ∀ (fuel : Nat) (listed : Array Bool) (a : Act) (w : World), Region.free md ops listed i = true → (Region.ready md ops listed).contains i = true → StillCall P ops S oi v a → S w →
      wpAnyH P md ops Q S fuel (listed.setIfInBounds i true) (a.put oi.dst v) w → wpAnyH P md ops Q S (fuel + 1) listed a w := by
  have hsel := Region.noSelect_spec hs
  have key : ∀ (fuel : Nat) (listed : Array Bool) (a : Act) (w : World),
      (∀ j oj, ops[j]? = some oj → j ≠ i → listed.getD j true = false → (∀ e ∈ oj.after, Region.binds md e = true → e.on ≠ i) → oi.apart ops oj = true) →
      i ∈ Region.ready md ops listed → StillCall P ops S oi v a → S w → wpAnyH P md ops Q S fuel (listed.setIfInBounds i true) (a.put oi.dst v) w → wpAnyH P md ops Q S (fuel + 1) listed a w := by
    intro fuel
    induction fuel with
    | zero =>
      intro listed a w _ hr hy hS H
      refine ⟨fun h => absurd (h ▸ hr) (by simp), fun j hj => ?_⟩
      by_cases hji : j = i
      · subst hji; exact hy.wpOp hi hS ⟨hS, H⟩
      · have h2 := ready_mono hj hji
        rw [H.1] at h2
        exact absurd h2 (by simp)
    | succ fuel ih =>
      intro listed a w hfree hr hy hS H
      refine ⟨fun h => absurd (h ▸ hr) (by simp), fun j hj => ?_⟩
      by_cases hji : j = i
      · subst hji; exact hy.wpOp hi hS ⟨hS, H⟩
      · have h1 := H.2 j (ready_mono hj hji)
        obtain ⟨hjun, oj, hoj, hall⟩ := mem_ready.1 hj
        have hnot : ∀ e ∈ oj.after, Region.binds md e = true → e.on ≠ i := by
          intro e he hb heq
          have g1 := hall e he hb
          have g0 := (mem_ready.1 hr).1
          rw [heq] at g1
          rcases Nat.lt_or_ge i listed.size with h' | h'
          · simp [h'] at g0 g1; rw [g0] at g1; cases g1
          · simp [Array.getElem?_eq_none h'] at g1
        have hap := hfree j oj hoj hji hjun hnot
        obtain ⟨p1, p2, p3⟩ := Oper.apart_spec hap
        have h2 := put_past (StillCall P ops S oi v) hoj hap (fun cs b => hsel j oj cs b hoj)
          (fun b u hb => by
            unfold StillCall at hb ⊢
            rw [execOp_put oi (fun cs b => hsel i oi cs b hi) b oj.dst u p3, wanted_put oi b oj.dst u p3]
            exact hb)
          (fun b d hb => hb) hQ hy h1
        have hfree' : ∀ k ok, ops[k]? = some ok → k ≠ i → (listed.setIfInBounds j true).getD k true = false →
            (∀ e ∈ ok.after, Region.binds md e = true → e.on ≠ i) → oi.apart ops ok = true := by
          intro k ok hk hki hun hno
          refine hfree k ok hk hki ?_ hno
          by_cases hjk : j = k
          · subst hjk; exact hjun
          · rw [getD_set_ne true hjk] at hun; exact hun
        refine wpOp_mono (fun a' w' h3 => ⟨h3.2.1, ih (listed.setIfInBounds j true) a' w' hfree' (ready_mono hr (Ne.symm hji)) h3.1 h3.2.1 ?_⟩) h2
        rw [Array.setIfInBounds_comm _ _ hji]
        exact h3.2.2
  intro fuel listed a w hf hr
  exact key fuel listed a w (fun j oj hj hne hun hno => Region.free_spec hi hf j oj hj hne hun hno) (by simpa using hr)
end
end Go.Proofs.YtmmnkoeajdeldaaGreatDoor
