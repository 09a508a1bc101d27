/- AsmLists: any program's list is the document's. -/
import Derived.Test.YtmmnkoeajdeldaaGreatDoorAsLaid
import Derived.Test.YtmmnkoeajdeldaaGreatDoorShaped
import Derived.Test.YtmmnkoeajdeldaaGreatDoorTie
import Derived.Test.YtmmnkoeajdeldaaGreatDoorCards
import Derived.Test.YtmmnkoeajdeldaaGreatDoorRm11
import Derived.Test.YtmmnkoeajdeldaaGreatDoorAsLt
namespace Go.Proofs.YtmmnkoeajdeldaaGreatDoor
open Go.ChangeShapes Go.WideShapes Go.ChangeAt Go.RowKit
set_option linter.unusedVariables false
set_option linter.unusedSimpArgs false
attribute [local go_sem] ba_get ba_cut ba_add
set_option maxRecDepth 100000 in
theorem great_any2 (A : Option Addr) (c : Nat) (X : Pl.Exe) (w : World) (h : XeOk X) : Calls Tryz.prog 15 #[xeV A c X] w (RetB (fun v _ => v = .int .i64 (if 200 < X.text.length ∨ 9000 < X.data.length then 1 else 0)) w) := by
  obtain ⟨t, d, ro, en⟩ := X
  obtain ⟨h1, h2, -, -, -, -⟩ := h
  unfold xeV
  dsimp only at h1 h2 ⊢
  obtain ⟨n, hn⟩ : ∃ n, t.length = n := ⟨_, rfl⟩
  rw [hn] at h1 ⊢
  clear hn
  go_enter Tryz.func15, Tryz.ntmps15
  by_cases c1 : 200 < n
  · go_wp2_with fail
    go_ret
    exact ⟨_, rfl, (by first | rfl | (rw [if_pos (.inl c1)]; rfl)), (Below.refl _ _).alloc (Nat.le_refl _) _⟩
  by_cases c2 : 9000 < d.length
  · go_wp2_with fail
    go_ret
    exact ⟨_, rfl, (by first | rfl | (rw [if_pos (.inr c2)]; rfl)), (Below.refl _ _).alloc (Nat.le_refl _) _⟩
  · go_wp2_with fail
    go_ret
    exact ⟨_, rfl, (by first | rfl | (rw [if_neg (by omega)]; rfl)), (Below.refl _ _).alloc (Nat.le_refl _) _⟩
set_option maxRecDepth 100000 in
set_option maxHeartbeats 4000000 in
theorem asmLists_walk (A : Option Addr) (c : Nat) (X : Pl.Exe) (w : World) (hr : Rd w 1 A X.text.length (w32s X.text)) (hx : XeOk X) (hv : VLaw w) :
    Calls Tryz.prog 5 #[xeV A c X] w (RetB (fun v _ => v = .bool true) w) := by
  have hgr := fun W => great_any2 A c X W hx
  obtain ⟨g, hg⟩ : ∃ g : Bool, decide (200 < X.text.length ∨ 9000 < X.data.length) = g := ⟨_, rfl⟩
  have e1 : (if 200 < X.text.length ∨ 9000 < X.data.length then (1 : Int) else 0) = if g then 1 else 0 := by
    rw [← hg]; by_cases h : 200 < X.text.length ∨ 9000 < X.data.length <;> simp [h]
  rw [e1] at hgr
  have hli := fun W (hb : Below w.heap.size w W) => list_any A c X W hx (hr.below hb) (hv.below hb)
  have hlr := fun W (hb : Below w.heap.size w W) => rlist_any A c X W hx (hr.below hb)
  obtain ⟨S, hS⟩ : ∃ S, Pl.listT X = S := ⟨_, rfl⟩
  rw [hS] at hli hlr
  have HV := Lib.hid hv
  clear hg e1 hS hv hr hx
  obtain ⟨tx, dx, rx, ex⟩ := X
  have eX : ∀ tA c', xeV tA c' ⟨tx, dx, rx, ex⟩ = .agg #[.slice tA tx.length c', .string ⟨dx.toArray⟩, .int .i64 rx, .int .u32 (ex : Int)] := fun _ _ => rfl
  simp only [eX] at hgr hli hlr ⊢
  obtain ⟨nx, hnx2⟩ : ∃ z, tx.length = z := ⟨_, rfl⟩
  rw [hnx2] at hgr hli hlr ⊢
  have HG := Lib.hid hgr
  have HL := Lib.hid (And.intro hli hlr)
  clear eX hgr hli hlr hnx2
  go_enter Tryz.func5, Tryz.ntmps5
  go_upto_region 1 with (fail)
  obtain ⟨B0, hB0⟩ : ∃ B, w.heap.size = B := ⟨_, rfl⟩
  obtain ⟨w1, hw1⟩ : ∃ V, w.alloc (.cells #[.slice A nx c, .string ⟨dx.toArray⟩, .int .i64 rx, .int .u32 (ex : Int)] 26) = V := ⟨_, rfl⟩
  have hz1 : w1.heap[B0]? = some (.cells #[.slice A nx c, .string ⟨dx.toArray⟩, .int .i64 rx, .int .u32 (ex : Int)] 26 (0, 0)) := by rw [← hw1, ← hB0]; exact heap_alloc_new _ _
  have hb1 : Below w.heap.size w w1 := by rw [← hw1]; exact (Below.refl _ _).alloc (Nat.le_refl _) _
  rw [hw1, hB0]
  obtain ⟨x0, x1, x2, x3⟩ := xeA_cells hz1
  have H1 := Lib.hid (And.intro (show ExAt w1 B0 A nx c dx rx ex from ⟨x0, x1, x2, x3⟩) (And.intro hb1 (blk_lt hz1)))
  clear hw1 hz1 hb1
  go_wp2_with fail
  refine (HG.out _).mono ?_
  rintro y w2 ⟨v, rfl, rfl, hb2⟩
  have hw2 := H1.out.2.1.trans (hb2.mono H1.out.2.1.size)
  have hv2 := HV.out.below hw2
  have hS2 := H1.out.1.below hb2 H1.out.2.2
  have hB2 := Nat.lt_of_lt_of_le H1.out.2.2 hb2.size
  have H2 := Lib.hid (And.intro hS2 (And.intro hw2 (And.intro hv2 hB2)))
  clear hb2 hw2 hv2 hS2 hB2 x0 x1 x2 x3
  cases g with
  | true =>
    simp only [if_true]
    go_wp2_with fail
    refine (fixed_any _ H2.out.2.2.1.asm).mono ?_
    rintro y w3 ⟨v, rfl, rfl, hb3⟩
    go_wp2_with fail
    go_ret
    exact ⟨_, rfl, rfl, H2.out.2.1.trans (hb3.mono H2.out.2.1.size)⟩
  | false =>
    simp only [Bool.false_eq_true, if_false]
    go_upto_region 3 with (fail)
    refine wp_region_held_drew (S := (fun w' => ExAt w' B0 A nx c dx rx ex)) (by kernel_rfl) (by exact H2.out.1.drew) (fun hHeld => ?_)
    refine wpAnyH_ready (rs := [0]) (by kernel_rfl) (by simp) (AllReadyH.cons rfl (fun K hK => ?_) AllReadyH.nil)
    go_simp
    refine (fixed_any _ (H2.out.2.2.1.asm.below (Below.refl _ _).drew)).mono ?_
    rintro y w3 ⟨v, rfl, rfl, hb3⟩
    have hb23 : Below w2.heap.size w2 w3 := ((Below.refl w2.heap.size w2).drew).trans hb3
    have hw3 := H2.out.2.1.trans (hb23.mono H2.out.2.1.size)
    have hS3 := H2.out.1.below hb23 H2.out.2.2.2
    have hB3 := Nat.lt_of_lt_of_le H2.out.2.2.2 hb23.size
    have H3 := Lib.hid (And.intro hS3 (And.intro hw3 hB3))
    clear hb3 hb23 hw3 hB3
    refine hK.out _ _ hS3 (fun hHeld => ?_)
    clear hK K
    (try simp only [Act.put, List.setIfInBounds_toArray, List.set_cons_zero, List.set_cons_succ, List.getElem_toArray, List.getElem_cons_succ, List.getElem_cons_zero])
    refine wpAnyH_take (i := 1) (v := ?_) rfl (by kernel_rfl) (by kernel_rfl) (by kernel_rfl) (fun _ _ _ h => h) (Or.inl ⟨by kernel_rfl, ?_⟩) hHeld ?_
    rotate_left
    · (intro w' hSw; (try dsimp only at hSw); go_simp; try with_reducible rfl)
    simp only [Act.put, List.setIfInBounds_toArray, List.set_cons_zero, List.set_cons_succ, List.getElem_toArray, List.getElem_cons_succ, List.getElem_cons_zero]
    refine wpAnyH_take (i := 2) (v := ?_) rfl (by kernel_rfl) (by kernel_rfl) (by kernel_rfl) (fun _ _ _ h => h) (Or.inl ⟨by kernel_rfl, ?_⟩) hHeld ?_
    rotate_left
    · (intro w' hSw; obtain ⟨hS0, hS1, hS2, hS3⟩ := hSw; go_simp; try with_reducible rfl)
    simp only [Act.put, List.setIfInBounds_toArray, List.set_cons_zero, List.set_cons_succ, List.getElem_toArray, List.getElem_cons_succ, List.getElem_cons_zero]
    refine wpAnyH_take (i := 4) (v := ?_) rfl (by kernel_rfl) (by kernel_rfl) (by kernel_rfl) (fun _ _ _ h => h) (Or.inl ⟨by kernel_rfl, ?_⟩) hHeld ?_
    rotate_left
    · (intro w' hSw; obtain ⟨hS0, hS1, hS2, hS3⟩ := hSw; go_simp; try with_reducible rfl)
    simp only [Act.put, List.setIfInBounds_toArray, List.set_cons_zero, List.set_cons_succ, List.getElem_toArray, List.getElem_cons_succ, List.getElem_cons_zero]
    refine wpAnyH_ready (rs := [3]) (by kernel_rfl) (by simp) (AllReadyH.cons rfl (fun K hK => ?_) AllReadyH.nil)
    go_simp
    refine (HL.out.1 w3 H3.out.2.1).mono ?_
    rintro y w4 ⟨v, rfl, rfl, hb4⟩
    have hw4 := H3.out.2.1.trans (hb4.mono H3.out.2.1.size)
    have hS4 := H3.out.1.below hb4 H3.out.2.2
    have hB4 := Nat.lt_of_lt_of_le H3.out.2.2 hb4.size
    have H4 := Lib.hid (And.intro hS4 (And.intro hw4 hB4))
    clear hb4 hw4 hB4
    refine hK.out _ _ hS4 (fun hHeld => ?_)
    clear hK K
    (try simp only [Act.put, List.setIfInBounds_toArray, List.set_cons_zero, List.set_cons_succ, List.getElem_toArray, List.getElem_cons_succ, List.getElem_cons_zero])
    refine wpAnyH_ready (rs := [5]) (by kernel_rfl) (by simp) (AllReadyH.cons rfl (fun K hK => ?_) AllReadyH.nil)
    go_simp
    refine (HL.out.2 w4 H4.out.2.1).mono ?_
    rintro y w5 ⟨v, rfl, rfl, hb5⟩
    have hw5 := H4.out.2.1.trans (hb5.mono H4.out.2.1.size)
    have hS5 := H4.out.1.below hb5 H4.out.2.2
    have H5 := Lib.hid hw5
    clear hb5 hw5
    refine hK.out _ _ hS5 (fun hHeld => ?_)
    clear hK K
    (try simp only [Act.put, List.setIfInBounds_toArray, List.set_cons_zero, List.set_cons_succ, List.getElem_toArray, List.getElem_cons_succ, List.getElem_cons_zero])
    refine wpAnyH_take (i := 6) (v := ?_) rfl (by kernel_rfl) (by kernel_rfl) (by kernel_rfl) (fun _ _ _ h => h) (Or.inl ⟨by kernel_rfl, ?_⟩) hHeld ?_
    rotate_left
    · (intro w' hSw; (try dsimp only at hSw); go_simp; try with_reducible rfl)
    simp only [Act.put, List.setIfInBounds_toArray, List.set_cons_zero, List.set_cons_succ, List.getElem_toArray, List.getElem_cons_succ, List.getElem_cons_zero]
    refine wpAnyH_take (i := 7) (v := ?_) rfl (by kernel_rfl) (by kernel_rfl) (by kernel_rfl) (fun _ _ _ h => h) (Or.inl ⟨by kernel_rfl, ?_⟩) hHeld ?_
    rotate_left
    · (intro w' hSw; (try dsimp only at hSw); go_simp; try with_reducible rfl)
    simp only [Act.put, List.setIfInBounds_toArray, List.set_cons_zero, List.set_cons_succ, List.getElem_toArray, List.getElem_cons_succ, List.getElem_cons_zero]
    refine wpAnyH_take (i := 8) (v := ?_) rfl (by kernel_rfl) (by kernel_rfl) (by kernel_rfl) (fun _ _ _ h => h) (Or.inl ⟨by kernel_rfl, ?_⟩) hHeld ?_
    rotate_left
    · (intro w' hSw; (try dsimp only at hSw); go_simp; try with_reducible rfl)
    simp only [Act.put, List.setIfInBounds_toArray, List.set_cons_zero, List.set_cons_succ, List.getElem_toArray, List.getElem_cons_succ, List.getElem_cons_zero]
    refine wpAnyH_done (by kernel_rfl) ?_ _
    go_wp2_with fail
    go_ret
    exact ⟨_, rfl, rfl, H5.out⟩
-- FRAME
set_option maxRecDepth 100000 in
theorem asmLists_lifted (os : Os) (started : os.Started) (H : Type) (enc : TypeId × Value → H) :
    ReturnsInHanded {} Tryz.checked os 5 .any (fun w args => (Rows.asmListsSpec.pre enc Tryz.prog Tryz.f5 [] false w args ∧ laidMetH Tryz.prog tabs8 w) ∧ sizedMet enc Tryz.prog Tryz.f5 (OpenSpec.ofChange Rows.asmListsSpec) false w args) (Rows.asmListsSpec.post enc Tryz.prog Tryz.f5 false true false false) := by
  refine handed_and_shaped (C := Tryz.checked) (X := fun w _ => laidMetH Tryz.prog tabs8 w) (fun _ _ _ hh h => h.of_heap hh) own started (by kernel_rfl) Tryz.func5
    (ChangeSpec.witness_shaped (enc := enc) (C := Tryz.checked) (os := os) (X := fun w _ => laidMetH Tryz.prog tabs8 w) false (World.laidAll Tryz.prog os tabs8) #[.agg #[.slice none 0 0, .string ⟨#[]⟩, .int .i64 0, .int .u32 0]] 8 (World.laidAll_os _ _ _) (door_shaped8 os) (by kernel_rfl) (by kernel_rfl) (by kernel_rfl) (door_met8 os _)) ?_
  intro W base args ds gs before hval0 hW hcnd hsz0 hL hsh _
  have hvars := vlaw_of8 hL hsh
  have hval : ∀ (j : Nat) t v, Tryz.f5.params[j]? = some t → args[j]? = some v → Value.okWide Tryz.prog W .any base t v := hval0
  have hW' := hW
  obtain ⟨p, q, hA0, hV, rfl, hfz, hnd⟩ := hW
  have hA : DataW.TrodAll enc Tryz.prog W 0 (fun _ => true) true Tryz.f5.params.toList args.toList ds p := hA0
  have hsz : (DataW.weightsEach Tryz.prog (Tryz.f5.params.toList ++ Rows.asmListsSpec.plain.varTypes Tryz.prog) (ds ++ gs)).all (· ≤ reachBytes) = true := hsz0
  rw [Tryz.params5] at hA hval hsz
  obtain ⟨v0, vs0, d0, ds0, p0, q0, hargs, rfl, rfl, h0, r0⟩ := trodAll_cons hA
  obtain ⟨rfl, rfl, rfl⟩ := trodAll_nil r0
  obtain rfl : args = #[v0] := by cases args; simp_all
  obtain ⟨rfl, rfl⟩ := trodVars_none hV
  have k0 := h0
  have lt0 : ∀ x ∈ p0, x.block < W.heap.size := by obtain ⟨m, hm⟩ := k0; exact DataW.trod_lt m _ _ _ hm
  have hz0 : ∀ m ∈ d0.weights Tryz.prog 26, m ≤ reachBytes := fun m hm => by
    have h1 := List.all_eq_true.1 hsz m (DataW.weights_mem_each (j := 0) rfl rfl m hm)
    simpa using h1
  obtain ⟨A0, c0, x0, rfl, eA0, eB0⟩ := open_xe (hval 0 26 v0 rfl rfl) h0 hz0
  clear hA0 hval0 hsz0
  refine (asmLists_walk A0 c0 x0 W eA0 eB0 hvars).mono fun e W' ⟨v, he, hv, bel⟩ => ?_
  subst he hv
  exact ⟨_, rfl, _, _, _, [], _, [], hW', trodAll_mk1 (shut_bool Tryz.underlying4 _), (trodAll_cons_mk (Below.trod laidOut (by kernel_rfl) (of_decide_eq_true (by kernel_rfl)) k0 bel lt0) trodAll_mk0), rfl, bel.frame _, fun h => by cases h⟩

theorem asmLists_row : Rows.AsmListsSaid :=
  OpenClaim.holds_of_wide 5 Tryz.f5 rfl rfl rfl rfl rfl rfl rfl ⟨rfl, rfl, rfl, rfl, rfl⟩ rfl rfl rfl rfl rfl (by kernel_rfl) Tryz.func5 (by kernel_rfl)
    (of_decide_eq_true (by kernel_rfl)) (by unfold Func.isWrapper; first | (rw [if_pos (by decide +kernel)]; kernel_rfl) | (rw [if_neg (by decide +kernel)]; exact ⟨rfl, rfl⟩))
    (fun os started H enc _ => asmLists_lifted os started H enc)

theorem asmLists_holds : Rows.AsmListsCardSaid :=
  Claim7.holds_tied_plain_at .later [] [.data, .data, .data, .data, .sentinel, .sentinel, .data, .pinned] true (true, "818a6ed589f336af0c0d102f47932e8562c39db2379b8541c17b0339f756e312") true
    asmLists_row (fun _ h => by cases h) (by kernel_rfl) (fun _ h => by cases h) asmLists_row_tie rfl ⟨rfl, rfl⟩ (by kernel_rfl) rfl
    (fun f fn hf hfn => by
      obtain rfl : f = 5 := Option.some.inj ((show Tryz.prog.funcNamed "hibernacle/hibernaclelaw11.AsmLists" = some 5 by kernel_rfl).symm.trans hf) |>.symm
      obtain rfl : fn = Tryz.f5 := (Option.some.inj (Tryz.func5.symm.trans hfn)).symm
      exact ⟨by kernel_rfl, fun j t ht => by
        rw [Tryz.params5] at ht
        rcases j with _ | _ | _ | _ | j
        all_goals first
          | (simp at ht; done)
          | (have h3 := Option.some.inj ht; subst h3; exact (show Tryz.prog.wantsStandIn _ = false by kernel_rfl))⟩)
    (by kernel_rfl)
#print axioms asmLists_holds
end Go.Proofs.YtmmnkoeajdeldaaGreatDoor
